/- Contracts of law 8: Fold without a product; few; value. Conditions: as each says. -/
import Derived.Test.YthlpimdpgmknoaaDoorWv8
import Derived.Test.YthlpimdpgmknoaaDoorPol
namespace Go.Proofs.YthlpimdpgmknoaaDoor
open Go.RowKit
set_option linter.unusedSimpArgs false
set_option linter.unusedVariables false
attribute [local irreducible] Fl.K
set_option maxRecDepth 100000 in
set_option maxHeartbeats 1600000 in
theorem fold_empty (ad bd : Option Addr) (n c m d : Nat) (f g : Nat → Int) (w : World) (hS : Sl .i64 w ad n f) (hT : Sl .i64 w bd m g) (hn : n ≤ 256) (hm : m ≤ 256) (hf : Dig n f) (hg : Dig m g) (h : n = 0 ∨ m = 0) :
    Calls Tryd.prog 35 #[.slice ad n c, .slice bd m d] w fun e w' => e = .returned (.tuple #[.slice none 0 0, .bool true]) ∧ w = w' := by
  have D1 := Lib.hid (digits_yes ad n c f w hS hn hf)
  have D2 := Lib.hid (digits_yes bd m d g w hT hm hg)
  clear hS hT hf hg
  by_cases h0 : n = 0
  · subst h0
    go_enter Tryd.func35, Tryd.ntmps35
    go_wp2_with fail
    with_reducible refine (D1.out).mono ?_
    rintro e w' ⟨rfl, rfl⟩
    go_wp2_with fail
    with_reducible refine (D2.out).mono ?_
    rintro e w' ⟨rfl, rfl⟩
    go_wp2_with fail
    refine bodyPost_ret (results_tmp2 rfl _ _ _) rfl ?_
    exact ⟨rfl, rfl⟩
  · have q1 : ((n : Int) == 0) = false := beq_f (by omega)
    have hm0 : m = 0 := by omega
    subst hm0
    clear h
    go_enter Tryd.func35, Tryd.ntmps35
    go_wp2_with fail
    with_reducible refine (D1.out).mono ?_
    rintro e w' ⟨rfl, rfl⟩
    go_wp2_with fail
    with_reducible refine (D2.out).mono ?_
    rintro e w' ⟨rfl, rfl⟩
    go_wp2_with fail
    refine bodyPost_ret (results_tmp2 rfl _ _ _) rfl ?_
    exact ⟨rfl, rfl⟩

end Go.Proofs.YthlpimdpgmknoaaDoor
