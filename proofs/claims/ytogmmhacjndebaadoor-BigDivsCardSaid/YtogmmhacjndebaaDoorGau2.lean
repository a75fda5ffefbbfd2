/- Contracts of package gauss: the closure that looks at one part. Conditions: as each says. -/
import Derived.Test.YtogmmhacjndebaaDoorGau1
namespace Go.Proofs.YtogmmhacjndebaaDoor
open Go.RowKit
set_option linter.unusedSimpArgs false
set_option linter.unusedVariables false

def isW (x lo hi : Nat) : Bool := Fl.geB x lo && Fl.leB x hi && Fl.eqB x (Fl.truncBits x)
theorem run_fneg {P : Program} (x : Nat) (w : World) : (Op.unary .neg (.float .f64 x)).run P w = .ok (.float .f64 (Op.negFloat .f64 x)) w := rfl

set_option maxRecDepth 100000 in
set_option maxHeartbeats 400000 in
theorem isW_any (x lo hi : Nat) (M : Int) (hl : Fl.Rep lo (-M)) (hh : Fl.Rep hi M) (hn : Op.negFloat .f64 hi = lo) (a : Addr) (w : World) (hc : w.cell? a = some (.float .f64 hi)) :
    Calls Tryd.prog 57 #[.float .f64 x, .pointer (some a)] w fun e w' => e = .returned (.bool (isW x lo hi)) ∧ w = w' := by
  have r1 := fun w => run_fneg (P := Tryd.prog) hi w
  rw [hn] at r1
  cases g1 : Fl.geB x lo
  · have hi0 : isW x lo hi = false := by unfold isW; rw [g1]; rfl
    rw [hi0]
    have f1 : (FloatKind.f64.format.order x lo == some .gt || FloatKind.f64.format.order x lo == some .eq) = false := g1
    clear g1 hi0 hn hl hh
    go_enter Tryd.func57, Tryd.ntmps57
    go_wp2_with fail
    go_ret
    exact ⟨rfl, rfl⟩
  · cases g2 : Fl.leB x hi
    · have hi0 : isW x lo hi = false := by unfold isW; rw [g1, g2]; rfl
      rw [hi0]
      have f1 : (FloatKind.f64.format.order x lo == some .gt || FloatKind.f64.format.order x lo == some .eq) = true := g1
      have f2 : (FloatKind.f64.format.order x hi == some .lt || FloatKind.f64.format.order x hi == some .eq) = false := g2
      clear g1 g2 hi0 hn hl hh
      go_enter Tryd.func57, Tryd.ntmps57
      go_wp2_with fail
      go_ret
      exact ⟨rfl, rfl⟩
    · obtain ⟨v, hv⟩ := Fl.val_within hl hh g1 g2
      have T := Lib.hid (fun w => trunc_any hv w)
      have hi0 : isW x lo hi = Fl.eqB x (Fl.truncBits x) := by unfold isW; rw [g1, g2]; rfl
      rw [hi0]
      have f1 : (FloatKind.f64.format.order x lo == some .gt || FloatKind.f64.format.order x lo == some .eq) = true := g1
      have f2 : (FloatKind.f64.format.order x hi == some .lt || FloatKind.f64.format.order x hi == some .eq) = true := g2
      clear g1 g2 hi0 hn hl hh hv
      have f3 : (FloatKind.f64.format.order x (Fl.truncBits x) == some .eq) = Fl.eqB x (Fl.truncBits x) := rfl
      generalize Fl.eqB x (Fl.truncBits x) = B at *
      generalize Fl.truncBits x = y at *
      go_enter Tryd.func57, Tryd.ntmps57
      go_wp2_with fail
      refine (T.out _).mono ?_
      rintro e w' ⟨rfl, rfl⟩
      go_wp2_with fail
      go_ret
      exact ⟨rfl, rfl⟩

theorem isW_iff (x lo hi : Nat) (M : Int) (h0 : 0 ≤ M) (h1 : M ≤ 4503599627370496) (hl : Fl.Rep lo (-M)) (hh : Fl.Rep hi M) : isW x lo hi = true ↔ ∃ n, Fl.Rep x n ∧ -M ≤ n ∧ n ≤ M := Fl.whole_iff h0 h1 hl hh

set_option maxRecDepth 100000 in
set_option maxHeartbeats 400000 in
theorem whole_any (x y lo hi : Nat) (M : Int) (hl : Fl.Rep lo (-M)) (hh : Fl.Rep hi M) (hn : Op.negFloat .f64 hi = lo) (w : World) :
    Calls Tryd.prog 47 #[.complex .f64 x y, .float .f64 hi] w fun e w' => e = .returned (.bool (isW x lo hi && isW y lo hi)) ∧ Below w.heap.size w w' := by
  have T1 := Lib.hid (fun a w hc => isW_any x lo hi M hl hh hn a w hc)
  have T2 := Lib.hid (fun a w hc => isW_any y lo hi M hl hh hn a w hc)
  clear hl hh hn
  cases g1 : isW x lo hi
  · rw [g1] at T1
    clear g1
    go_enter Tryd.func47, Tryd.ntmps47
    go_wp2_with fail
    refine (T1.out _ _ (by first | assumption | (simp [go_sem]; done))).mono ?_
    rintro e w' ⟨rfl, rfl⟩
    go_wp2_with fail
    go_ret
    exact ⟨rfl, by repeat' (first | (with_reducible assumption) | (with_reducible exact Below.refl _ _) | (with_reducible refine below_drewN ?_ _) | (with_reducible refine Below.drew ?_) | (with_reducible refine Below.setCell ?_ ?_ _) | (with_reducible refine Below.alloc ?_ ?_ _) | omega | (simp; done) | (simp; omega))⟩
  · rw [g1] at T1
    clear g1
    generalize isW y lo hi = B at *
    go_enter Tryd.func47, Tryd.ntmps47
    go_wp2_with fail
    refine (T1.out _ _ (by first | assumption | (simp [go_sem]; done))).mono ?_
    rintro e w' ⟨rfl, rfl⟩
    go_wp2_with fail
    refine (T2.out _ _ (by first | assumption | (simp [go_sem]; done))).mono ?_
    rintro e w' ⟨rfl, rfl⟩
    go_wp2_with fail
    go_ret
    exact ⟨rfl, by repeat' (first | (with_reducible assumption) | (with_reducible exact Below.refl _ _) | (with_reducible refine below_drewN ?_ _) | (with_reducible refine Below.drew ?_) | (with_reducible refine Below.setCell ?_ ?_ _) | (with_reducible refine Below.alloc ?_ ?_ _) | omega | (simp; done) | (simp; omega))⟩
end Go.Proofs.YtogmmhacjndebaaDoor
