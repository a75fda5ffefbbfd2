/- when.Parse of a text out of shape. -/
import Derived.Test.YtoidmnleedkbiaaDoorW18
import Derived.Outline
import Derived.Deep.QuietTactic
import Derived.BigQuiet
namespace Go.Proofs.YtoidmnleedkbiaaDoor
open Go.RowKit
set_option linter.unusedSimpArgs false
set_option linter.unusedVariables false
def byteIs (s : ByteArray) (k : Nat) (c : Nat) : Prop := ∃ h : k < s.size, (s[k]'h).toNat = c
def in20 (t : ByteArray) : Prop := t.size = 20 ∧ byteIs t 4 45 ∧ byteIs t 7 45 ∧ byteIs t 10 84 ∧ byteIs t 13 58 ∧ byteIs t 16 58 ∧ byteIs t 19 90
theorem byte_ne {s : ByteArray} {k c : Nat} (C : Int) (hC : C = c) (hk : k < s.size) (h : ¬ byteIs s k c) : (((s[k]'hk).toNat : Int) != C) = true := by
  subst hC
  rw [bne_iff_ne]
  intro e
  exact h ⟨hk, by omega⟩
theorem byte_ok {s : ByteArray} {k c : Nat} (C : Int) (hC : C = c) (hk : k < s.size) (h : byteIs s k c) : (((s[k]'hk).toNat : Int) != C) = false := by
  subst hC
  obtain ⟨_, h⟩ := h
  rw [h]
  simp
set_option maxHeartbeats 1600000 in
set_option maxRecDepth 100000 in
theorem parseOut20_any (s : ByteArray) (hz : s.size ≤ 1000) (hs : ¬ s.size = 24) (hno : ¬ in20 s) (w : World) :
    Calls Tryd.prog 6 #[.string s] w fun e w' => e = .returned (.tuple #[.int .i64 0, .bool false]) ∧ Below w.heap.size w w' := by
  by_cases h20 : s.size = 20
  · by_cases q4 : byteIs s 4 45
    · have c4 := byte_ok 45 rfl (by omega) q4
      by_cases q7 : byteIs s 7 45
      · have c7 := byte_ok 45 rfl (by omega) q7
        by_cases q10 : byteIs s 10 84
        · have c10 := byte_ok 84 rfl (by omega) q10
          by_cases q13 : byteIs s 13 58
          · have c13 := byte_ok 58 rfl (by omega) q13
            by_cases q16 : byteIs s 16 58
            · have c16 := byte_ok 58 rfl (by omega) q16
              have c19 := byte_ne 90 rfl (by omega) (fun q19 : byteIs s 19 90 => hno ⟨h20, q4, q7, q10, q13, q16, q19⟩)
              clear hno
              go_enter Tryd.func6, Tryd.ntmps6
              go_wp2_with fail
              go_ret2
              exact ⟨rfl, by repeat' (first | (with_reducible assumption) | (with_reducible exact Below.refl _ _) | (with_reducible refine below_drewN ?_ _) | (with_reducible refine Below.drew ?_) | (with_reducible refine Below.setCell ?_ ?_ _) | (with_reducible refine Below.alloc ?_ ?_ _) | omega | (simp; done) | (simp; omega))⟩
            · have c16 := byte_ne 58 rfl (by omega) q16
              clear hno
              go_enter Tryd.func6, Tryd.ntmps6
              go_wp2_with fail
              go_ret2
              exact ⟨rfl, by repeat' (first | (with_reducible assumption) | (with_reducible exact Below.refl _ _) | (with_reducible refine below_drewN ?_ _) | (with_reducible refine Below.drew ?_) | (with_reducible refine Below.setCell ?_ ?_ _) | (with_reducible refine Below.alloc ?_ ?_ _) | omega | (simp; done) | (simp; omega))⟩
          · have c13 := byte_ne 58 rfl (by omega) q13
            clear hno
            go_enter Tryd.func6, Tryd.ntmps6
            go_wp2_with fail
            go_ret2
            exact ⟨rfl, by repeat' (first | (with_reducible assumption) | (with_reducible exact Below.refl _ _) | (with_reducible refine below_drewN ?_ _) | (with_reducible refine Below.drew ?_) | (with_reducible refine Below.setCell ?_ ?_ _) | (with_reducible refine Below.alloc ?_ ?_ _) | omega | (simp; done) | (simp; omega))⟩
        · have c10 := byte_ne 84 rfl (by omega) q10
          clear hno
          go_enter Tryd.func6, Tryd.ntmps6
          go_wp2_with fail
          go_ret2
          exact ⟨rfl, by repeat' (first | (with_reducible assumption) | (with_reducible exact Below.refl _ _) | (with_reducible refine below_drewN ?_ _) | (with_reducible refine Below.drew ?_) | (with_reducible refine Below.setCell ?_ ?_ _) | (with_reducible refine Below.alloc ?_ ?_ _) | omega | (simp; done) | (simp; omega))⟩
      · have c7 := byte_ne 45 rfl (by omega) q7
        clear hno
        go_enter Tryd.func6, Tryd.ntmps6
        go_wp2_with fail
        go_ret2
        exact ⟨rfl, by repeat' (first | (with_reducible assumption) | (with_reducible exact Below.refl _ _) | (with_reducible refine below_drewN ?_ _) | (with_reducible refine Below.drew ?_) | (with_reducible refine Below.setCell ?_ ?_ _) | (with_reducible refine Below.alloc ?_ ?_ _) | omega | (simp; done) | (simp; omega))⟩
    · have c4 := byte_ne 45 rfl (by omega) q4
      clear hno
      go_enter Tryd.func6, Tryd.ntmps6
      go_wp2_with fail
      go_ret2
      exact ⟨rfl, by repeat' (first | (with_reducible assumption) | (with_reducible exact Below.refl _ _) | (with_reducible refine below_drewN ?_ _) | (with_reducible refine Below.drew ?_) | (with_reducible refine Below.setCell ?_ ?_ _) | (with_reducible refine Below.alloc ?_ ?_ _) | omega | (simp; done) | (simp; omega))⟩
  · clear hno
    go_enter Tryd.func6, Tryd.ntmps6
    go_wp2_with fail
    go_ret2
    exact ⟨rfl, by repeat' (first | (with_reducible assumption) | (with_reducible exact Below.refl _ _) | (with_reducible refine below_drewN ?_ _) | (with_reducible refine Below.drew ?_) | (with_reducible refine Below.setCell ?_ ?_ _) | (with_reducible refine Below.alloc ?_ ?_ _) | omega | (simp; done) | (simp; omega))⟩
end Go.Proofs.YtoidmnleedkbiaaDoor
