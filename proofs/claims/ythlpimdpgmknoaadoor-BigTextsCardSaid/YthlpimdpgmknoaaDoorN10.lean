/- big.Mul of all rows, the guard of law 9, the law BigMuls. Conditions: as each says. -/
import Derived.Test.YthlpimdpgmknoaaDoorN9
import Derived.Outline
namespace Go.Proofs.YthlpimdpgmknoaaDoor
open Go.RowKit
set_option linter.unusedSimpArgs false
set_option linter.unusedVariables false
attribute [local irreducible] Fl.K
set_option maxHeartbeats 3200000 in
set_option maxRecDepth 100000 in
theorem bigMul_zero (ad bd : Option Addr) (n c m d : Nat) (a b : List Nat) (hn : a.length = n) (hm : b.length = m) (ha : isB a = true) (hb : isB b = true) (da : DigL a) (db : DigL b) (h0 : n = 0 ∨ m = 0) (w : World) (hS : Sl .u16 w ad n (gi a)) (hT : Sl .u16 w bd m (gi b)) :
    Calls Tryd.prog 10 #[.slice ad n c, .slice bd m d] w (RetU (dg (valL a * valL b)) w) := by
  have hn256 : n ≤ 256 := by have := (isB_iff.1 ha).1; omega
  have hm256 : m ≤ 256 := by have := (isB_iff.1 hb).1; omega
  have I1 := Lib.hid (fun w h => ha ▸ bigIs_any ad n c a hn (by omega) w h)
  have I2 := Lib.hid (fun w h => hb ▸ bigIs_any bd m d b hm (by omega) w h)
  have N1 := Lib.hid (fun w h => numbers_any ad n c a hn (by omega) da w h)
  have N2 := Lib.hid (fun w h => numbers_any bd m d b hm (by omega) db w h)
  have ga := fun i => gi_bd da i
  have gb := fun i => gi_bd db i
  have FO := Lib.hid (fun x y cx cy w h g => fold_empty x y n cx m cy (gi a) (gi b) w h g hn256 hm256 (fun i _ => ga i) (fun i _ => gb i) h0)
  have hV : valL a * valL b = 0 := by
    rcases h0 with h | h
    · rw [show a = [] from List.eq_nil_of_length_eq_zero (by omega)]; simp [valL]
    · rw [show b = [] from List.eq_nil_of_length_eq_zero (by omega)]; simp [valL]
  rw [hV, dg_zero]
  have TR := Lib.hid (fun w => bigTrim_any none 0 0 [] rfl (Nat.le_refl _) (by decide) DigL.nil w (Sl.none _ _ _ _))
  rw [show (dg (valL [])).length = 0 by rw [show valL [] = 0 from rfl, dg_zero]; rfl] at TR
  have HS := Lib.hid hS
  have HT := Lib.hid hT
  clear ga gb hS hT hn hm ha hb da db hV h0
  go_enter Tryd.func10, Tryd.ntmps10
  go_wp2_with fail
  with_reducible refine (I1.out _ HS.out).mono ?_
  rintro e w' ⟨rfl, rfl⟩
  go_wp2_with fail
  with_reducible refine (I2.out _ HT.out).mono ?_
  rintro e w' ⟨rfl, rfl⟩
  go_wp2_with fail
  with_reducible refine (N1.out _ HS.out).mono ?_
  rintro e w1 ⟨b1, c1, rfl, s1, hw1⟩
  have t1 := HT.out.beyond hw1
  replace s1 := Lib.hid s1
  go_wp2_with fail
  with_reducible refine (N2.out _ t1).mono ?_
  rintro e w2 ⟨b2, c2, rfl, s2, hb2⟩
  have s12 := s1.out.beyond hb2
  have hw2 : Below w.heap.size w w2 := hw1.trans (hb2.mono hw1.size)
  clear t1 s1 hb2 hw1
  go_wp2_with fail
  with_reducible refine (FO.out _ _ _ _ _ s12 s2).mono ?_
  rintro e w3 ⟨rfl, rfl⟩
  clear s12 s2
  go_wp2_with fail
  go_loop [7, 8, 29] (fun p q k => p = .slice none 0 0 ∧ q = .int .i64 0 ∧ k = .int .i64 0) (fun _ _ _ => 0)
  case atStart => exact ⟨rfl, rfl, rfl⟩
  case round =>
    obtain ⟨rfl, rfl, rfl⟩ := hrel
    go_wp2_with fail
    go_loop [7, 8] (fun p q => p = .slice none 0 0 ∧ q = .int .i64 0) (fun _ _ => 0)
    case atStart => exact ⟨rfl, rfl⟩
    case round =>
      obtain ⟨rfl, rfl⟩ := hrel
      go_wp2_with fail
      with_reducible refine (TR.out _).mono ?_
      rintro e w' ⟨rfl, rfl⟩
      go_wp2_with fail
      go_ret
      exact ⟨none, 0, rfl, Nat.le_refl _, Sl.none _ _ _ _, hw2⟩
theorem bigMul_any (ad bd : Option Addr) (n c m d : Nat) (a b : List Nat) (hn : a.length = n) (hm : b.length = m) (ha : isB a = true) (hb : isB b = true) (da : DigL a) (db : DigL b) (w : World) (hS : Sl .u16 w ad n (gi a)) (hT : Sl .u16 w bd m (gi b)) :
    Calls Tryd.prog 10 #[.slice ad n c, .slice bd m d] w (RetU (dg (valL a * valL b)) w) := by
  by_cases h : n = 0 ∨ m = 0
  · exact bigMul_zero ad bd n c m d a b hn hm ha hb da db h w hS hT
  · exact bigMul_yes ad bd n c m d a b hn hm ha hb da db (by omega) (by omega) w hS hT
theorem prod_len {a b : List Nat} (da : DigL a) (db : DigL b) : (dg (valL a * valL b)).length ≤ a.length + b.length := by
  refine dg_len_le ?_
  have z := Nat.mul_lt_mul_of_le_of_lt (Nat.le_of_lt (val_lt da)) (val_lt db) (Nat.pow_pos (by decide))
  rw [← Nat.pow_add] at z
  exact z
theorem row_lu {w : World} {g n : Nat} {h : Nat → Int} (r : Row w g n (ou h)) : Sl .u16 w (some ⟨g, 0, none⟩) n h := row_slu r
theorem lit2 (w : World) (t : TypeId) (x y : Int) (l : List Nat) (e0 : x = gi l 0) (e1 : y = gi l 1) : Sl .u16 (w.alloc (.cells #[.int .u16 x, .int .u16 y] t)) (some ⟨w.heap.size, 0, none⟩) 2 (gi l) :=
  row_slu (row_new w _ t (ou (gi l)) 2 (fun i hi => by
    subst e0 e1
    match i, hi with
    | 0, _ => rfl
    | 1, _ => rfl))
theorem lit3 (w : World) (t : TypeId) (x y z : Int) (l : List Nat) (e0 : x = gi l 0) (e1 : y = gi l 1) (e2 : z = gi l 2) : Sl .u16 (w.alloc (.cells #[.int .u16 x, .int .u16 y, .int .u16 z] t)) (some ⟨w.heap.size, 0, none⟩) 3 (gi l) :=
  row_slu (row_new w _ t (ou (gi l)) 3 (fun i hi => by
    subst e0 e1 e2
    match i, hi with
    | 0, _ => rfl
    | 1, _ => rfl
    | 2, _ => rfl))
theorem lit1 (w : World) (t : TypeId) (x : Int) (l : List Nat) (e0 : x = gi l 0) : Sl .u16 (w.alloc (.cells #[.int .u16 x] t)) (some ⟨w.heap.size, 0, none⟩) 1 (gi l) :=
  row_slu (row_new w _ t (ou (gi l)) 1 (fun i hi => by
    subst e0
    match i, hi with
    | 0, _ => rfl))
theorem dig01 : DigL [0, 1] := (DigL.nil.cons (by decide)).cons (by decide)
theorem dg01 : dg (valL [0, 1] * valL [0, 1]) = [0, 0, 1] := by
  have h : Can [0, 0, 1] := ⟨((DigL.nil.cons (by decide)).cons (by decide)).cons (by decide), by decide⟩
  rw [show valL [0, 1] * valL [0, 1] = valL [0, 0, 1] by decide, dg_val h]
theorem text01 : Lib.decDigits (valL [0, 1]) = [54, 53, 53, 51, 54] := by
  rw [show valL [0, 1] = 65536 from rfl]
  rw [Lib.decDigits, dif_neg (by decide), Lib.decDigits, dif_neg (by decide), Lib.decDigits, dif_neg (by decide), Lib.decDigits, dif_neg (by decide), Lib.decDigits, dif_pos (by decide)]
  rfl
set_option maxHeartbeats 3200000 in
set_option maxRecDepth 100000 in
theorem awake9 (w : World) (htab : PowTab w) : Calls Tryd.prog 9 #[] w fun e w' => e = .returned (.bool true) ∧ Below w.heap.size w w' := by
  have HT := Lib.hid htab
  clear htab
  have M1 := Lib.hid (fun (x : Option Addr) w h => bigMul_yes x x 2 2 2 2 [0, 1] [0, 1] rfl rfl rfl rfl dig01 dig01 (by decide) (by decide) w h h)
  rw [dg01] at M1
  have I1 := Lib.hid (fun (x : Option Addr) w h => bigIs_any x 2 2 [0, 1] rfl (by decide) w h)
  have I2 := Lib.hid (fun (x : Option Addr) w h => bigIs_any x 1 1 [0] rfl (by decide) w h)
  rw [show isB [0, 1] = true from rfl] at I1
  rw [show isB [0] = false from rfl] at I2
  have S1 := Lib.hid (fun (x y : Option Addr) c w h g => same_any x y 3 c 3 3 [0, 0, 1] [0, 0, 1] rfl rfl (by decide) (by decide) w h g)
  rw [show decide (([0, 0, 1] : List Nat) = [0, 0, 1]) = true from rfl] at S1
  have T1 := Lib.hid (fun (x : Option Addr) w t h => bigText_yes x 2 2 [0, 1] rfl rfl dig01 (by decide) w t h)
  rw [text01] at T1
  have L2 := lit2 w 45 0 1 [0, 1] rfl rfl
  have L2 := Lib.hid L2
  go_enter Tryd.func9, Tryd.ntmps9
  go_wp2_with fail
  with_reducible refine (M1.out _ _ L2.out).mono ?_
  rintro e w1 ⟨p, cp, rfl, hcp, s1, hb1⟩
  have l1 := L2.out.beyond hb1
  have hw1 : Below w.heap.size w w1 := Below.trans (by repeat' (first | (with_reducible assumption) | (with_reducible exact Below.refl _ _) | (with_reducible refine below_drewN ?_ _) | (with_reducible refine Below.drew ?_) | (with_reducible refine Below.setCell ?_ ?_ _) | (with_reducible refine Below.alloc ?_ ?_ _) | omega | (simp; done) | (simp; omega))) (hb1.mono (by simp))
  have hz1 := hw1.size
  have s1' := s1.alloc (.cells #[.int .u16 0, .int .u16 0, .int .u16 1] 45)
  have t1 := lit3 w1 45 0 0 1 [0, 0, 1] rfl rfl rfl
  have l1' := l1.alloc (.cells #[.int .u16 0, .int .u16 0, .int .u16 1] 45)
  have hw1' : Below w.heap.size w (w1.alloc (.cells #[.int .u16 0, .int .u16 0, .int .u16 1] 45)) := hw1.alloc hz1 _
  replace s1' := Lib.hid s1'
  replace t1 := Lib.hid t1
  replace l1' := Lib.hid l1'
  clear hb1 s1 l1
  go_wp2_with fail
  with_reducible refine (S1.out _ _ _ _ s1'.out t1.out).mono ?_
  rintro e w2 ⟨rfl, q, rfl⟩
  have l2 := l1'.out.drewN q
  have hw2 := below_drewN hw1' q
  generalize (w1.alloc (.cells #[.int .u16 0, .int .u16 0, .int .u16 1] 45)).drewN q = w2 at *
  have hz2 := hw2.size
  replace l2 := Lib.hid l2
  clear s1' t1 l1' hw1'
  go_wp2_with fail
  with_reducible refine (I1.out _ _ l2.out).mono ?_
  rintro e w' ⟨rfl, rfl⟩
  have l3 := Lib.hid (l2.out.alloc (.cells #[.int .u16 0] 45))
  have t3 := Lib.hid (lit1 w2 45 0 [0] rfl)
  have hw3 : Below w.heap.size w (w2.alloc (.cells #[.int .u16 0] 45)) := hw2.alloc hz2 _
  go_wp2_with fail
  with_reducible refine (I2.out _ _ t3.out).mono ?_
  rintro e w' ⟨rfl, rfl⟩
  go_wp2_with fail
  with_reducible refine (T1.out _ _ (tabIs_below HT.out hw3) l3.out).mono ?_
  rintro e w4 ⟨rfl, hb4⟩
  have hw4 : Below w.heap.size w w4 := hw3.trans (hb4.mono hw3.size)
  go_wp2_with fail
  go_ret
  exact ⟨by first | rfl | simp, hw4⟩
/-- The digits of a row as they came in. -/
def lst (n : Nat) (f : Nat → Int) : List Nat := (List.range n).map fun i => (f i).toNat
theorem lst_len (n : Nat) (f : Nat → Int) : (lst n f).length = n := by unfold lst; simp
def DgF (n : Nat) (f : Nat → Int) : Prop := ∀ i, i < n → 0 ≤ f i ∧ f i ≤ 65535
theorem lst_dig {n : Nat} {f : Nat → Int} (h : DgF n f) : DigL (lst n f) := DigL.map n _ (fun i hi => by have := h i hi; omega)
theorem lst_gi {n : Nat} {f : Nat → Int} (h : DgF n f) (i : Nat) (hi : i < n) : gi (lst n f) i = f i := by
  unfold gi lst
  rw [List.getD_eq_getElem?_getD, List.getElem?_map, List.getElem?_range hi]
  show (((f i).toNat : Nat) : Int) = f i
  exact Int.toNat_of_nonneg (h i hi).1
theorem lst_sl {w : World} {ad : Option Addr} {n : Nat} {f : Nat → Int} (h : DgF n f) (hS : Sl .u16 w ad n f) : Sl .u16 w ad n (gi (lst n f)) := hS.congr (fun i hi => (lst_gi h i hi).symm)
set_option maxHeartbeats 3200000 in
set_option maxRecDepth 100000 in
theorem bigMuls_list (ad bd : Option Addr) (n c m d : Nat) (a b : List Nat) (hn : a.length = n) (hm : b.length = m) (hz : n ≤ maxLen) (hz2 : m ≤ maxLen) (da : DigL a) (db : DigL b) (w : World) (htab : PowTab w) (hS : Sl .u16 w ad n (gi a)) (hT : Sl .u16 w bd m (gi b)) :
    Calls Tryd.prog 3 #[.slice ad n c, .slice bd m d] w fun e w' => e = .returned (.bool true) ∧ Below w.heap.size w w' := by
  have AW := Lib.hid (awake9 w htab)
  have HS := Lib.hid hS
  have HT := Lib.hid hT
  unfold maxLen at hz hz2
  clear htab
  by_cases h1 : n ≤ 300
  · by_cases h2 : m ≤ 300
    · have RI1 := Lib.hid (fun w h => refIs_any ad n c a hn (by omega) w h)
      have RI2 := Lib.hid (fun w h => refIs_any bd m d b hm (by omega) w h)
      cases ea : isB a with
      | false =>
        have MB := Lib.hid (fun w h g => bigMul_bad ad bd n c m d a b hn hm (by omega) (by omega) (Or.inl ea) w h g)
        rw [ea] at RI1
        clear hn hm da db hS hT ea RI2
        go_enter Tryd.func3, Tryd.ntmps3
        go_wp2_with fail
        with_reducible refine (AW.out).mono ?_
        rintro e w1 ⟨rfl, hw1⟩
        have s1 := Lib.hid (HS.out.beyond hw1)
        have t1 := Lib.hid (HT.out.beyond hw1)
        go_wp2_with fail
        with_reducible refine (MB.out _ s1.out t1.out).mono ?_
        rintro e w' ⟨rfl, rfl⟩
        go_wp2_with fail
        with_reducible refine (RI1.out _ s1.out).mono ?_
        rintro e w' ⟨rfl, rfl⟩
        go_wp2_with fail
        go_ret
        exact ⟨rfl, hw1⟩
      | true =>
        cases eb : isB b with
        | false =>
          have MB := Lib.hid (fun w h g => bigMul_bad ad bd n c m d a b hn hm (by omega) (by omega) (Or.inr eb) w h g)
          rw [ea] at RI1
          rw [eb] at RI2
          clear hn hm da db hS hT ea eb
          go_enter Tryd.func3, Tryd.ntmps3
          go_wp2_with fail
          with_reducible refine (AW.out).mono ?_
          rintro e w1 ⟨rfl, hw1⟩
          have s1 := Lib.hid (HS.out.beyond hw1)
          have t1 := Lib.hid (HT.out.beyond hw1)
          go_wp2_with fail
          with_reducible refine (MB.out _ s1.out t1.out).mono ?_
          rintro e w' ⟨rfl, rfl⟩
          go_wp2_with fail
          with_reducible refine (RI1.out _ s1.out).mono ?_
          rintro e w' ⟨rfl, rfl⟩
          go_wp2_with fail
          with_reducible refine (RI2.out _ t1.out).mono ?_
          rintro e w' ⟨rfl, rfl⟩
          go_wp2_with fail
          go_ret
          exact ⟨rfl, hw1⟩
        | true =>
          have MB := Lib.hid (fun w h g => bigMul_any ad bd n c m d a b hn hm ea eb da db w h g)
          have RM := Lib.hid (fun w h g => refMul_any ad bd n c m d a b hn hm (by omega) (by omega) da db w h g)
          rw [ea] at RI1
          rw [eb] at RI2
          have hn256 := (isB_iff.1 ea).1
          have hm256 := (isB_iff.1 eb).1
          obtain ⟨P, hP⟩ : ∃ P, dg (valL a * valL b) = P := ⟨_, rfl⟩
          have hPl : P.length ≤ 512 := by rw [← hP]; have := prod_len da db; omega
          rw [hP] at MB RM
          obtain ⟨L, hL⟩ : ∃ L, P.length = L := ⟨_, rfl⟩
          have SM := Lib.hid (fun x y cx cy w h g => same_any x y L cx L cy P P hL hL (by omega) (by omega) w h g)
          rw [decide_eq_true rfl] at SM
          have MB := Lib.hid (show ∀ w, Sl .u16 w ad n (gi a) → Sl .u16 w bd m (gi b) → Calls Tryd.prog 10 #[.slice ad n c, .slice bd m d] w (fun e w' => ∃ x cx, e = .returned (.slice x L cx) ∧ Sl .u16 w' x L (gi P) ∧ Below w.heap.size w w') from fun w h g => (MB.out w h g).mono (by rintro e w' ⟨x, cx, rfl, _, s, hb⟩; rw [hL] at s ⊢; exact ⟨x, cx, rfl, s, hb⟩))
          have RM := Lib.hid (show ∀ w, Sl .u16 w ad n (gi a) → Sl .u16 w bd m (gi b) → Calls Tryd.prog 13 #[.slice ad n c, .slice bd m d] w (fun e w' => ∃ x cx, e = .returned (.slice x L cx) ∧ Sl .u16 w' x L (gi P) ∧ Below w.heap.size w w') from fun w h g => (RM.out w h g).mono (by rintro e w' ⟨x, cx, rfl, _, s, hb⟩; rw [hL] at s ⊢; exact ⟨x, cx, rfl, s, hb⟩))
          clear hn hm da db hS hT ea eb hP hPl hL
          go_enter Tryd.func3, Tryd.ntmps3
          go_wp2_with fail
          with_reducible refine (AW.out).mono ?_
          rintro e w1 ⟨rfl, hw1⟩
          have s1 := Lib.hid (HS.out.beyond hw1)
          have t1 := Lib.hid (HT.out.beyond hw1)
          go_wp2_with fail
          with_reducible refine (MB.out _ s1.out t1.out).mono ?_
          rintro e w2 ⟨x, cx, rfl, p2, hb2⟩
          have s2 := Lib.hid (s1.out.beyond hb2)
          have t2 := Lib.hid (t1.out.beyond hb2)
          have hw2 : Below w.heap.size w w2 := hw1.trans (hb2.mono hw1.size)
          replace p2 := Lib.hid p2
          clear s1 t1 hb2 hw1
          go_wp2_with fail
          with_reducible refine (RI1.out _ s2.out).mono ?_
          rintro e w' ⟨rfl, rfl⟩
          go_wp2_with fail
          with_reducible refine (RI2.out _ t2.out).mono ?_
          rintro e w' ⟨rfl, rfl⟩
          go_wp2_with fail
          with_reducible refine (RM.out _ s2.out t2.out).mono ?_
          rintro e w3 ⟨y, cy, rfl, p3, hb3⟩
          have p23 := Lib.hid (p2.out.beyond hb3)
          have hw3 : Below w.heap.size w w3 := hw2.trans (hb3.mono hw2.size)
          replace p3 := Lib.hid p3
          clear s2 t2 hb3 hw2 p2
          go_wp2_with fail
          with_reducible refine (SM.out _ _ _ _ _ p23.out p3.out).mono ?_
          rintro e w4 ⟨rfl, q, rfl⟩
          go_wp2_with fail
          go_ret
          exact ⟨rfl, below_drewN hw3 q⟩
    · clear hn hm da db hS hT
      go_enter Tryd.func3, Tryd.ntmps3
      go_wp2_with fail
      with_reducible refine (AW.out).mono ?_
      rintro e w1 ⟨rfl, hw1⟩
      go_wp2_with fail
      go_ret
      exact ⟨rfl, hw1⟩
  · clear hn hm da db hS hT
    go_enter Tryd.func3, Tryd.ntmps3
    go_wp2_with fail
    with_reducible refine (AW.out).mono ?_
    rintro e w1 ⟨rfl, hw1⟩
    go_wp2_with fail
    go_ret
    exact ⟨rfl, hw1⟩
theorem bigMuls_walk (ad : Option Addr) (n c : Nat) (f : Nat → Int) (bd : Option Addr) (m d : Nat) (g : Nat → Int) (w : World) (hS : Sl .u16 w ad n f) (hn : n ≤ maxLen) (hf : DgF n f) (hT : Sl .u16 w bd m g) (hm : m ≤ maxLen) (hg : DgF m g) (htab : PowTab w) :
    Calls Tryd.prog 3 #[.slice ad n c, .slice bd m d] w fun e w' => e = .returned (.bool true) ∧ Below w.heap.size w w' :=
  bigMuls_list ad bd n c m d _ _ (lst_len n f) (lst_len m g) hn hm (lst_dig hf) (lst_dig hg) w htab (lst_sl hf hS) (lst_sl hg hT)
end Go.Proofs.YthlpimdpgmknoaaDoor
