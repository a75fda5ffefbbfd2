/- big.Mul of all rows, the guard of law 9, the law BigMuls. Conditions: as each says. -/
import Derived.Test.YtogmmhacjndebaaDoorN9
import Derived.Outline
namespace Go.Proofs.YtogmmhacjndebaaDoor
open Go.RowKit
set_option linter.unusedSimpArgs false
set_option linter.unusedVariables false
attribute [local irreducible] Fl.K
theorem lit2 (w : World) (t : TypeId) (x y : Int) (l : List Nat) (e0 : x = gi l 0) (e1 : y = gi l 1) : Sl .u16 (w.alloc (.cells #[.int .u16 x, .int .u16 y] t)) (some ⟨w.heap.size, 0, none⟩) 2 (gi l) :=
  row_slu (row_new w _ t (ou (gi l)) 2 (fun i hi => by
    subst e0 e1
    match i, hi with
    | 0, _ => rfl
    | 1, _ => rfl))
theorem lit3 (w : World) (t : TypeId) (x y z : Int) (l : List Nat) (e0 : x = gi l 0) (e1 : y = gi l 1) (e2 : z = gi l 2) : Sl .u16 (w.alloc (.cells #[.int .u16 x, .int .u16 y, .int .u16 z] t)) (some ⟨w.heap.size, 0, none⟩) 3 (gi l) :=
  row_slu (row_new w _ t (ou (gi l)) 3 (fun i hi => by
    subst e0 e1 e2
    match i, hi with
    | 0, _ => rfl
    | 1, _ => rfl
    | 2, _ => rfl))
theorem lit1 (w : World) (t : TypeId) (x : Int) (l : List Nat) (e0 : x = gi l 0) : Sl .u16 (w.alloc (.cells #[.int .u16 x] t)) (some ⟨w.heap.size, 0, none⟩) 1 (gi l) :=
  row_slu (row_new w _ t (ou (gi l)) 1 (fun i hi => by
    subst e0
    match i, hi with
    | 0, _ => rfl))
theorem dig01 : DigL [0, 1] := (DigL.nil.cons (by decide)).cons (by decide)
theorem dg01 : dg (valL [0, 1] * valL [0, 1]) = [0, 0, 1] := by
  have h : Can [0, 0, 1] := ⟨((DigL.nil.cons (by decide)).cons (by decide)).cons (by decide), by decide⟩
  rw [show valL [0, 1] * valL [0, 1] = valL [0, 0, 1] by decide, dg_val h]
theorem text01 : Lib.decDigits (valL [0, 1]) = [54, 53, 53, 51, 54] := by
  rw [show valL [0, 1] = 65536 from rfl]
  rw [Lib.decDigits, dif_neg (by decide), Lib.decDigits, dif_neg (by decide), Lib.decDigits, dif_neg (by decide), Lib.decDigits, dif_neg (by decide), Lib.decDigits, dif_pos (by decide)]
  rfl
set_option maxHeartbeats 3200000 in
set_option maxRecDepth 100000 in
theorem awake9 (w : World) (htab : PowTab w) : Calls Tryd.prog 4 #[] w fun e w' => e = .returned (.bool true) ∧ Below w.heap.size w w' := by
  have HT := Lib.hid htab
  clear htab
  have M1 := Lib.hid (fun (x : Option Addr) w h => bigMul_yes x x 2 2 2 2 [0, 1] [0, 1] rfl rfl rfl rfl dig01 dig01 (by decide) (by decide) w h h)
  rw [dg01] at M1
  have I1 := Lib.hid (fun (x : Option Addr) w h => bigIs_any x 2 2 [0, 1] rfl (by decide) w h)
  have I2 := Lib.hid (fun (x : Option Addr) w h => bigIs_any x 1 1 [0] rfl (by decide) w h)
  rw [show isB [0, 1] = true from rfl] at I1
  rw [show isB [0] = false from rfl] at I2
  have S1 := Lib.hid (fun (x y : Option Addr) c w h g => same_any x y 3 c 3 3 [0, 0, 1] [0, 0, 1] rfl rfl (by decide) (by decide) w h g)
  rw [show decide (([0, 0, 1] : List Nat) = [0, 0, 1]) = true from rfl] at S1
  have T1 := Lib.hid (fun (x : Option Addr) w t h => bigText_yes x 2 2 [0, 1] rfl rfl dig01 (by decide) w t h)
  rw [text01] at T1
  have L2 := lit2 w 31 0 1 [0, 1] rfl rfl
  have L2 := Lib.hid L2
  go_enter Tryd.func4, Tryd.ntmps4
  go_wp2_with fail
  with_reducible refine (M1.out _ _ L2.out).mono ?_
  rintro e w1 ⟨p, cp, rfl, hcp, s1, hb1⟩
  have l1 := L2.out.beyond hb1
  have hw1 : Below w.heap.size w w1 := Below.trans (by repeat' (first | (with_reducible assumption) | (with_reducible exact Below.refl _ _) | (with_reducible refine below_drewN ?_ _) | (with_reducible refine Below.drew ?_) | (with_reducible refine Below.setCell ?_ ?_ _) | (with_reducible refine Below.alloc ?_ ?_ _) | omega | (simp; done) | (simp; omega))) (hb1.mono (by simp))
  have hz1 := hw1.size
  have s1' := s1.alloc (.cells #[.int .u16 0, .int .u16 0, .int .u16 1] 31)
  have t1 := lit3 w1 31 0 0 1 [0, 0, 1] rfl rfl rfl
  have l1' := l1.alloc (.cells #[.int .u16 0, .int .u16 0, .int .u16 1] 31)
  have hw1' : Below w.heap.size w (w1.alloc (.cells #[.int .u16 0, .int .u16 0, .int .u16 1] 31)) := hw1.alloc hz1 _
  replace s1' := Lib.hid s1'
  replace t1 := Lib.hid t1
  replace l1' := Lib.hid l1'
  clear hb1 s1 l1
  go_wp2_with fail
  with_reducible refine (S1.out _ _ _ _ s1'.out t1.out).mono ?_
  rintro e w2 ⟨rfl, q, rfl⟩
  have l2 := l1'.out.drewN q
  have hw2 := below_drewN hw1' q
  generalize (w1.alloc (.cells #[.int .u16 0, .int .u16 0, .int .u16 1] 31)).drewN q = w2 at *
  have hz2 := hw2.size
  replace l2 := Lib.hid l2
  clear s1' t1 l1' hw1'
  go_wp2_with fail
  with_reducible refine (I1.out _ _ l2.out).mono ?_
  rintro e w' ⟨rfl, rfl⟩
  have l3 := Lib.hid (l2.out.alloc (.cells #[.int .u16 0] 31))
  have t3 := Lib.hid (lit1 w2 31 0 [0] rfl)
  have hw3 : Below w.heap.size w (w2.alloc (.cells #[.int .u16 0] 31)) := hw2.alloc hz2 _
  go_wp2_with fail
  with_reducible refine (I2.out _ _ t3.out).mono ?_
  rintro e w' ⟨rfl, rfl⟩
  go_wp2_with fail
  with_reducible refine (T1.out _ _ (tabIs_below HT.out hw3) l3.out).mono ?_
  rintro e w4 ⟨rfl, hb4⟩
  have hw4 : Below w.heap.size w w4 := hw3.trans (hb4.mono hw3.size)
  go_wp2_with fail
  go_ret
  exact ⟨by first | rfl | simp, hw4⟩
/-- The digits of a row as they came in. -/
def lst (n : Nat) (f : Nat → Int) : List Nat := (List.range n).map fun i => (f i).toNat
theorem lst_len (n : Nat) (f : Nat → Int) : (lst n f).length = n := by unfold lst; simp
def DgF (n : Nat) (f : Nat → Int) : Prop := ∀ i, i < n → 0 ≤ f i ∧ f i ≤ 65535
theorem lst_dig {n : Nat} {f : Nat → Int} (h : DgF n f) : DigL (lst n f) := DigL.map n _ (fun i hi => by have := h i hi; omega)
theorem lst_gi {n : Nat} {f : Nat → Int} (h : DgF n f) (i : Nat) (hi : i < n) : gi (lst n f) i = f i := by
  unfold gi lst
  rw [List.getD_eq_getElem?_getD, List.getElem?_map, List.getElem?_range hi]
  show (((f i).toNat : Nat) : Int) = f i
  exact Int.toNat_of_nonneg (h i hi).1
theorem lst_sl {w : World} {ad : Option Addr} {n : Nat} {f : Nat → Int} (h : DgF n f) (hS : Sl .u16 w ad n f) : Sl .u16 w ad n (gi (lst n f)) := hS.congr (fun i hi => (lst_gi h i hi).symm)
end Go.Proofs.YtogmmhacjndebaaDoor
