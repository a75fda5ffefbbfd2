/- Contracts of package wave: digits; the reference's SameInts. Conditions: as each says. -/
import Derived.Test.YtogmmhacjndebaaDoorWav3
import Derived.Test.YtogmmhacjndebaaDoorSl
namespace Go.Proofs.YtogmmhacjndebaaDoor
open Go.RowKit
set_option linter.unusedSimpArgs false
set_option linter.unusedVariables false

def Dig (n : Nat) (f : Nat → Int) : Prop := ∀ i, i < n → 0 ≤ f i ∧ f i ≤ 65535
set_option maxRecDepth 100000 in
set_option maxHeartbeats 800000 in
theorem digits_yes (ad : Option Addr) (n c : Nat) (f : Nat → Int) (w : World) (hS : Sl .i64 w ad n f) (hn : n ≤ 256) (hf : Dig n f) :
    Calls Tryd.prog 30 #[.slice ad n c] w fun e w' => e = .returned (.bool true) ∧ w = w' := by
  replace hS := Lib.hid hS
  replace hf := Lib.hid hf
  go_enter Tryd.func30, Tryd.ntmps30
  go_wp2_with fail
  go_loop [7] (fun k => ∃ K : Nat, K ≤ n ∧ k = .int .i64 K) (fun k => n - (intOf k).toNat)
  case atStart => exact ⟨0, by omega, rfl⟩
  case round =>
    obtain ⟨K, hK, rfl⟩ := hrel
    by_cases hK4 : K < n
    · obtain ⟨a, rfl, hl, hc⟩ := hS.out K hK4
      obtain ⟨f0, f1⟩ := hf.out K hK4
      go_wp2_with fail
      go_round
      case rel => exact ⟨K + 1, by omega, by go_num⟩
      case measure => simp [intOf]; omega
    · go_wp2_with fail
      go_ret
      exact ⟨by simp; omega, rfl⟩
end Go.Proofs.YtogmmhacjndebaaDoor
