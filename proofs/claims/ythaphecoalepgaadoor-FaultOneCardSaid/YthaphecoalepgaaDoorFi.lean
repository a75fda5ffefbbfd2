/- The walks of FaultOne, FaultBack and FaultTells. Condition: the listed variables are laid, and some integer stands at the library's MaxLen. -/
import Derived.Test.YthaphecoalepgaaDoorFh
namespace Go.Proofs.YthaphecoalepgaaDoor
open Go.RowKit
set_option linter.unusedSimpArgs false
set_option linter.unusedVariables false

theorem sl_none2 (w : World) (f : Nat → Int) : Sl .i64 w Option.none 0 f := Sl.none _ _ _ _
set_option maxHeartbeats 3200000 in
set_option maxRecDepth 100000 in
theorem faultOne_walk (s : ByteArray) (w : World) (hL : Laid5 w) :
    Calls Tryd.prog 6 #[.string s] w fun en w' => en = .returned (.bool true) ∧ Below w.heap.size w w' := by
  have HL := Lib.hid hL
  clear hL
  have AW := Lib.hid awake5
  by_cases hs : s.size ≤ 400
  · have PA := Lib.hid (fun (w : World) (h : Laid5 w) => faultParse_any s (by omega) w h)
    go_enter Tryd.func6, Tryd.ntmps6
    go_wp2_with fail
    with_reducible refine (AW.out _ (laid5_below HL.out (by repeat' (first | (with_reducible assumption) | (with_reducible exact Below.refl _ _) | (with_reducible refine below_drewN ?_ _) | (with_reducible refine Below.drew ?_) | (with_reducible refine Below.setCell ?_ ?_ _) | (with_reducible refine Below.alloc ?_ ?_ _) | omega | (simp; done) | (simp; omega))))).mono ?_
    rintro e w1 ⟨rfl, hb1⟩
    have hw1 : Below w.heap.size w w1 := Below.trans (by repeat' (first | (with_reducible assumption) | (with_reducible exact Below.refl _ _) | (with_reducible refine below_drewN ?_ _) | (with_reducible refine Below.drew ?_) | (with_reducible refine Below.setCell ?_ ?_ _) | (with_reducible refine Below.alloc ?_ ?_ _) | omega | (simp; done) | (simp; omega))) (hb1.mono (by first | assumption | (simp; done) | (simp; omega)))
    have hz1 := hw1.size
    clear hb1
    go_wp2_with fail
    with_reducible refine (PA.out _ (laid5_below HL.out hw1)).mono ?_
    rintro en w2 ⟨⟨e, a, p, v, hP, hO, rfl⟩ | ⟨hN, rfl⟩, hb2⟩
    · obtain ⟨ad, c, rfl, hsl⟩ := hO.sl
      have hw2 : Below w.heap.size w w2 := hw1.trans (hb2.mono hz1)
      have hz2 := hw2.size
      have TX := Lib.hid (fun (W : World) (h : PowTab W) (h2 : Sl .i64 W ad p.length (gp p)) => faultText_any e a ad p.length c p rfl (by
        obtain ⟨r, h1, h2⟩ := hP.parts
        have h3 := congrArg List.length h2
        rw [pieces_len] at h3
        simp at h3
        have h4 := List.count_le_length (a := (47 : UInt8)) (l := r)
        have h5 : r.length ≤ s.data.toList.length := by
          have h6 := hP.2.2.2.2
          have h7 := cut_hit (r := Lib.decDigits a.toNat ++ pthL p) (nmL_facts hP.1)
          rw [h6, h7] at h1
          simp only [Prod.mk.injEq] at h1
          rw [h6, ← h1.2.1]
          simp
          omega
        simp at h5
        omega) hP.2.2.1 (fun v hv => (hP.2.2.2.1 v hv).2) W h h2)
      have hsd : (⟨(txtL e a p).toArray⟩ : ByteArray) = s := by rw [hP.text]
      rw [hsd] at TX
      have HSL := Lib.hid hsl
      clear hsd hsl hO hP hb2
      go_wp2_with fail
      with_reducible refine (TX.out _ (laid5_pow (laid5_below HL.out (by repeat' (first | (with_reducible assumption) | (with_reducible exact Below.refl _ _) | (with_reducible refine below_drewN ?_ _) | (with_reducible refine Below.drew ?_) | (with_reducible refine Below.setCell ?_ ?_ _) | (with_reducible refine Below.alloc ?_ ?_ _) | omega | (simp; done) | (simp; omega))))) (HSL.out.alloc _)).mono ?_
      rintro en w3 ⟨rfl, hb3⟩
      have hw3 : Below w.heap.size w w3 := Below.trans (by repeat' (first | (with_reducible assumption) | (with_reducible exact Below.refl _ _) | (with_reducible refine below_drewN ?_ _) | (with_reducible refine Below.drew ?_) | (with_reducible refine Below.setCell ?_ ?_ _) | (with_reducible refine Below.alloc ?_ ?_ _) | omega | (simp; done) | (simp; omega))) (hb3.mono (by first | assumption | (simp; done) | (simp; omega)))
      go_wp2_with fail
      go_ret
      exact ⟨by first | rfl | (simp; done), by repeat' (first | (with_reducible assumption) | (with_reducible exact Below.refl _ _) | (with_reducible refine below_drewN ?_ _) | (with_reducible refine Below.drew ?_) | (with_reducible refine Below.setCell ?_ ?_ _) | (with_reducible refine Below.alloc ?_ ?_ _) | omega | (simp; done) | (simp; omega))⟩
    · have hw2 : Below w.heap.size w w2 := hw1.trans (hb2.mono hz1)
      have hz2 := hw2.size
      have SM := Lib.hid (fun (W : World) => same5_any 0 0 none none 0 0 0 (fun _ => 0) (by decide) W (sl_none2 _ _) (sl_none2 _ _))
      clear hb2 hN
      go_wp2_with fail
      with_reducible refine (SM.out _).mono ?_
      rintro en w3 ⟨rfl, hb3⟩
      have hw3 : Below w.heap.size w w3 := Below.trans (by repeat' (first | (with_reducible assumption) | (with_reducible exact Below.refl _ _) | (with_reducible refine below_drewN ?_ _) | (with_reducible refine Below.drew ?_) | (with_reducible refine Below.setCell ?_ ?_ _) | (with_reducible refine Below.alloc ?_ ?_ _) | omega | (simp; done) | (simp; omega))) (hb3.mono (by first | assumption | (simp; done) | (simp; omega)))
      go_wp2_with fail
      go_ret
      exact ⟨by first | rfl | (simp; done), by repeat' (first | (with_reducible assumption) | (with_reducible exact Below.refl _ _) | (with_reducible refine below_drewN ?_ _) | (with_reducible refine Below.drew ?_) | (with_reducible refine Below.setCell ?_ ?_ _) | (with_reducible refine Below.alloc ?_ ?_ _) | omega | (simp; done) | (simp; omega))⟩
  · go_enter Tryd.func6, Tryd.ntmps6
    go_wp2_with fail
    with_reducible refine (AW.out _ (laid5_below HL.out (by repeat' (first | (with_reducible assumption) | (with_reducible exact Below.refl _ _) | (with_reducible refine below_drewN ?_ _) | (with_reducible refine Below.drew ?_) | (with_reducible refine Below.setCell ?_ ?_ _) | (with_reducible refine Below.alloc ?_ ?_ _) | omega | (simp; done) | (simp; omega))))).mono ?_
    rintro e w1 ⟨rfl, hb1⟩
    have hw1 : Below w.heap.size w w1 := Below.trans (by repeat' (first | (with_reducible assumption) | (with_reducible exact Below.refl _ _) | (with_reducible refine below_drewN ?_ _) | (with_reducible refine Below.drew ?_) | (with_reducible refine Below.setCell ?_ ?_ _) | (with_reducible refine Below.alloc ?_ ?_ _) | omega | (simp; done) | (simp; omega))) (hb1.mono (by first | assumption | (simp; done) | (simp; omega)))
    have hz1 := hw1.size
    clear hb1
    go_wp2_with fail
    go_ret
    exact ⟨rfl, by repeat' (first | (with_reducible assumption) | (with_reducible exact Below.refl _ _) | (with_reducible refine below_drewN ?_ _) | (with_reducible refine Below.drew ?_) | (with_reducible refine Below.setCell ?_ ?_ _) | (with_reducible refine Below.alloc ?_ ?_ _) | omega | (simp; done) | (simp; omega))⟩
theorem par_len {l : List UInt8} {e a : Int} {p : List Int} (h : Par l e a p) (hl : l.length ≤ 100000) : p.length ≤ 1000000 := by
  have h1 : ∀ q : List Int, q.length ≤ (pthL q).length := fun q => by
    induction q with
    | nil => simp
    | cons v q ih =>
      have e2 : pthL (v :: q) = 47 :: (Lib.decDigits v.toNat ++ pthL q) := by simp [pthL]
      rw [e2]
      simp
      omega
  have h2 := h1 p
  have h3 := congrArg List.length h.2.2.2.2
  simp at h3
  omega
theorem pth_len (p : List Int) (h : ∀ v ∈ p, v ≤ 9223372036854775807) : (pthL p).length ≤ 21 * p.length := by
  induction p with
  | nil => simp [pthL]
  | cons v p ih =>
    have e : pthL (v :: p) = 47 :: (Lib.decDigits v.toNat ++ pthL p) := by simp [pthL]
    have h1 := h v List.mem_cons_self
    have h2 := ih (fun v hv => h v (List.mem_cons_of_mem _ hv))
    have h3 : (Lib.decDigits v.toNat).length ≤ 20 := by rw [Lib.decDigits_length]; exact nDigits_of_lt 20 _ (by decide) (by omega)
    rw [e, List.length_cons, List.length_append, List.length_cons]
    omega
theorem txt_len (e a : Int) (p : List Int) (ha : a ≤ 9223372036854775807) (h : ∀ v ∈ p, v ≤ 9223372036854775807) : (txtL e a p).length ≤ 27 + 21 * p.length := by
  unfold txtL
  split
  · simp
  · have h1 := pth_len p h
    have h2 := nmL_len e
    have h3 : (Lib.decDigits a.toNat).length ≤ 20 := by rw [Lib.decDigits_length]; exact nDigits_of_lt 20 _ (by decide) (by omega)
    rw [List.length_append, List.length_cons, List.length_append]
    omega
set_option maxHeartbeats 3200000 in
set_option maxRecDepth 100000 in
theorem faultBack_walk (e a : Int) (ad : Option Addr) (n c : Nat) (p : List Int) (hn : p.length = n) (e1 : e ≤ 9223372036854775807) (a1 : a ≤ 9223372036854775807) (hp : ∀ v ∈ p, v ≤ 9223372036854775807) (w : World) (hS : Sl .i64 w ad n (gp p)) (hL : Laid5 w) :
    Calls Tryd.prog 5 #[.agg #[.int .i64 e, .int .i64 a, .slice ad n c]] w fun en w' => en = .returned (.bool true) ∧ Below w.heap.size w w' := by
  have HL := Lib.hid hL
  have HS := Lib.hid hS
  clear hL hS
  have AW := Lib.hid awake5
  by_cases hz : n ≤ 100
  · obtain ⟨O, hO⟩ : ∃ O : ByteArray, (⟨(txtL e a p).toArray⟩ : ByteArray) = O := ⟨_, rfl⟩
    have hol : O.data.toList = txtL e a p := by rw [← hO]
    have hos : O.size ≤ 4000 := by
      have h1 : O.data.toList.length = O.size := by simp
      have h2 := txt_len e a p a1 hp
      rw [← h1, hol]
      omega
    have TX := Lib.hid (fun (W : World) (h : PowTab W) (h2 : Sl .i64 W ad n (gp p)) => faultText_any e a ad n c p hn (by omega) a1 hp W h h2)
    rw [hO] at TX
    have PA := Lib.hid (fun (w : World) (h : Laid5 w) => faultParse_any O hos w h)
    rw [hol] at PA
    have hE := isEmpty_size O
    have hlen : O.data.toList.length = O.size := by simp
    by_cases h0 : txtL e a p = []
    · have hb0 : O.size = 0 := by rw [← hlen, hol, h0]; rfl
      rw [decide_eq_true hb0] at hE
      rw [h0] at PA
      have HNO := Lib.hid (no_par_at (l := []) (by simp))
      clear hO hol hlen hn hp h0
      go_enter Tryd.func5, Tryd.ntmps5
      go_wp2_with fail
      with_reducible refine (AW.out _ (laid5_below HL.out (by repeat' (first | (with_reducible assumption) | (with_reducible exact Below.refl _ _) | (with_reducible refine below_drewN ?_ _) | (with_reducible refine Below.drew ?_) | (with_reducible refine Below.setCell ?_ ?_ _) | (with_reducible refine Below.alloc ?_ ?_ _) | omega | (simp; done) | (simp; omega))))).mono ?_
      rintro en w1 ⟨rfl, hb1⟩
      have F1 : FC w1 w.heap.size e a (.slice ad n c) := (FC.new w _ _ _ _).beyond hb1
      have hw1 : Below w.heap.size w w1 := Below.trans (by repeat' (first | (with_reducible assumption) | (with_reducible exact Below.refl _ _) | (with_reducible refine below_drewN ?_ _) | (with_reducible refine Below.drew ?_) | (with_reducible refine Below.setCell ?_ ?_ _) | (with_reducible refine Below.alloc ?_ ?_ _) | omega | (simp; done) | (simp; omega))) (hb1.mono (by first | assumption | (simp; done) | (simp; omega)))
      have hz1 := hw1.size
      have c1 := F1
      obtain ⟨c1_0, c1_1, c1_2, c1z, c1l⟩ := c1
      clear hb1 c1z
      go_wp2_with fail
      with_reducible refine (TX.out _ (laid5_pow (laid5_below HL.out hw1)) (HS.out.beyond hw1)).mono ?_
      rintro en w2 ⟨rfl, hb2⟩
      have hw2 : Below w.heap.size w w2 := hw1.trans (hb2.mono hz1)
      have hz2 := hw2.size
      clear hb2
      go_wp2_with fail
      with_reducible refine (PA.out _ (laid5_below HL.out hw2)).mono ?_
      rintro en w3 ⟨⟨e', a', p', v, hP, hO, rfl⟩ | ⟨hN, rfl⟩, hb3⟩
      · exact absurd hP (HNO.out _ _ _)
      · have hw3 : Below w.heap.size w w3 := hw2.trans (hb3.mono hz2)
        have hz3 := hw3.size
        clear hb3 hN
        go_wp2_with fail
        go_ret
        exact ⟨by first | rfl | (simp; done), by repeat' (first | (with_reducible assumption) | (with_reducible exact Below.refl _ _) | (with_reducible refine below_drewN ?_ _) | (with_reducible refine Below.drew ?_) | (with_reducible refine Below.setCell ?_ ?_ _) | (with_reducible refine Below.alloc ?_ ?_ _) | omega | (simp; done) | (simp; omega))⟩
    · have hb0 : ¬ O.size = 0 := fun h => h0 (by rw [← hol]; exact List.eq_nil_of_length_eq_zero (by omega))
      rw [decide_eq_false hb0] at hE
      have HPP : Hid (Par (txtL e a p) e a p) := Lib.hid (Par.of h0 a1 hp rfl)
      have SM := Lib.hid (fun (W : World) (bd : Option Addr) (d : Nat) (h1 : Sl .i64 W ad n (gp p)) (h2 : Sl .i64 W bd n (gp p)) => same5_any e a ad bd n c d (gp p) (by omega) W h1 h2)
      have HN := Lib.hid hn
      clear hO hol hlen hn hp h0 hb0
      go_enter Tryd.func5, Tryd.ntmps5
      go_wp2_with fail
      with_reducible refine (AW.out _ (laid5_below HL.out (by repeat' (first | (with_reducible assumption) | (with_reducible exact Below.refl _ _) | (with_reducible refine below_drewN ?_ _) | (with_reducible refine Below.drew ?_) | (with_reducible refine Below.setCell ?_ ?_ _) | (with_reducible refine Below.alloc ?_ ?_ _) | omega | (simp; done) | (simp; omega))))).mono ?_
      rintro en w1 ⟨rfl, hb1⟩
      have F1 : FC w1 w.heap.size e a (.slice ad n c) := (FC.new w _ _ _ _).beyond hb1
      have hw1 : Below w.heap.size w w1 := Below.trans (by repeat' (first | (with_reducible assumption) | (with_reducible exact Below.refl _ _) | (with_reducible refine below_drewN ?_ _) | (with_reducible refine Below.drew ?_) | (with_reducible refine Below.setCell ?_ ?_ _) | (with_reducible refine Below.alloc ?_ ?_ _) | omega | (simp; done) | (simp; omega))) (hb1.mono (by first | assumption | (simp; done) | (simp; omega)))
      have hz1 := hw1.size
      have c1 := F1
      obtain ⟨c1_0, c1_1, c1_2, c1z, c1l⟩ := c1
      clear hb1 c1z
      go_wp2_with fail
      with_reducible refine (TX.out _ (laid5_pow (laid5_below HL.out hw1)) (HS.out.beyond hw1)).mono ?_
      rintro en w2 ⟨rfl, hb2⟩
      have F2 := Lib.hid ((show FC w1 w.heap.size e a (.slice ad n c) from F1).beyond hb2)
      have hw2 : Below w.heap.size w w2 := hw1.trans (hb2.mono hz1)
      have hz2 := hw2.size
      clear hb2 F1 c1_0 c1_1 c1_2
      go_wp2_with fail
      with_reducible refine (PA.out _ (laid5_below HL.out hw2)).mono ?_
      rintro en w3 ⟨⟨e', a', p', v, hP, hO, rfl⟩ | ⟨hN, rfl⟩, hb3⟩
      · obtain ⟨rfl, rfl, rfl⟩ := HPP.out.uniq hP
        obtain ⟨bd, d, rfl, hsl⟩ := hO.sl
        rw [HN.out] at hsl ⊢
        have F3 := F2.out.beyond hb3
        have hw3 : Below w.heap.size w w3 := hw2.trans (hb3.mono hz2)
        have hz3 := hw3.size
        have HSL := Lib.hid hsl
        obtain ⟨d0, d1, d2, dz, dl⟩ := F3
        clear hb3 hsl hP hO F2
        go_wp2_with fail
        with_reducible refine (SM.out _ _ _ ?s1 ?s2).mono ?_
        case s1 => exact HS.out.beyond (by repeat' (first | (with_reducible assumption) | (with_reducible exact Below.refl _ _) | (with_reducible refine below_drewN ?_ _) | (with_reducible refine Below.drew ?_) | (with_reducible refine Below.setCell ?_ ?_ _) | (with_reducible refine Below.alloc ?_ ?_ _) | omega | (simp; done) | (simp; omega)))
        case s2 => exact HSL.out.alloc _
        rintro en w4 ⟨rfl, hb4⟩
        have hw4 : Below w.heap.size w w4 := Below.trans (by repeat' (first | (with_reducible assumption) | (with_reducible exact Below.refl _ _) | (with_reducible refine below_drewN ?_ _) | (with_reducible refine Below.drew ?_) | (with_reducible refine Below.setCell ?_ ?_ _) | (with_reducible refine Below.alloc ?_ ?_ _) | omega | (simp; done) | (simp; omega))) (hb4.mono (by first | assumption | (simp; done) | (simp; omega)))
        go_wp2_with fail
        go_ret
        exact ⟨by first | rfl | (simp; done), by repeat' (first | (with_reducible assumption) | (with_reducible exact Below.refl _ _) | (with_reducible refine below_drewN ?_ _) | (with_reducible refine Below.drew ?_) | (with_reducible refine Below.setCell ?_ ?_ _) | (with_reducible refine Below.alloc ?_ ?_ _) | omega | (simp; done) | (simp; omega))⟩
      · exact absurd HPP.out (hN _ _ _)
  · clear hp
    go_enter Tryd.func5, Tryd.ntmps5
    go_wp2_with fail
    with_reducible refine (AW.out _ (laid5_below HL.out (by repeat' (first | (with_reducible assumption) | (with_reducible exact Below.refl _ _) | (with_reducible refine below_drewN ?_ _) | (with_reducible refine Below.drew ?_) | (with_reducible refine Below.setCell ?_ ?_ _) | (with_reducible refine Below.alloc ?_ ?_ _) | omega | (simp; done) | (simp; omega))))).mono ?_
    rintro en w1 ⟨rfl, hb1⟩
    have F1 : FC w1 w.heap.size e a (.slice ad n c) := (FC.new w _ _ _ _).beyond hb1
    have hw1 : Below w.heap.size w w1 := Below.trans (by repeat' (first | (with_reducible assumption) | (with_reducible exact Below.refl _ _) | (with_reducible refine below_drewN ?_ _) | (with_reducible refine Below.drew ?_) | (with_reducible refine Below.setCell ?_ ?_ _) | (with_reducible refine Below.alloc ?_ ?_ _) | omega | (simp; done) | (simp; omega))) (hb1.mono (by first | assumption | (simp; done) | (simp; omega)))
    have hz1 := hw1.size
    have c1 := F1
    obtain ⟨c1_0, c1_1, c1_2, c1z, c1l⟩ := c1
    clear hb1 c1z
    go_wp2_with fail
    go_ret
    exact ⟨rfl, by repeat' (first | (with_reducible assumption) | (with_reducible exact Below.refl _ _) | (with_reducible refine below_drewN ?_ _) | (with_reducible refine Below.drew ?_) | (with_reducible refine Below.setCell ?_ ?_ _) | (with_reducible refine Below.alloc ?_ ?_ _) | omega | (simp; done) | (simp; omega))⟩
set_option maxHeartbeats 6400000 in
set_option maxRecDepth 100000 in
theorem faultTells_walk (e a : Int) (ad : Option Addr) (n c : Nat) (p : List Int) (hn : p.length = n) (e1 : e ≤ 9223372036854775807) (a1 : a ≤ 9223372036854775807) (hp : ∀ v ∈ p, v ≤ 9223372036854775807) (s : ByteArray) (w : World) (hS : Sl .i64 w ad n (gp p)) (hL : Laid5 w) :
    Calls Tryd.prog 4 #[.agg #[.int .i64 e, .int .i64 a, .slice ad n c], .string s] w fun en w' => en = .returned (.bool true) ∧ Below w.heap.size w w' := by
  have HL := Lib.hid hL
  have HS := Lib.hid hS
  clear hL hS
  have AW := Lib.hid awake5
  by_cases hz : n ≤ 100
  · by_cases hs : s.size ≤ 400
    · obtain ⟨O, hO⟩ : ∃ O : ByteArray, (⟨(txtL e a p).toArray⟩ : ByteArray) = O := ⟨_, rfl⟩
      have TX0 := fun (W : World) (h : PowTab W) (h2 : Sl .i64 W ad n (gp p)) => faultText_any e a ad n c p hn (by omega) a1 hp W h h2
      have TR0 := fun (W : World) (h2 : Sl .i64 W ad n (gp p)) => refText_any e a ad n c p hn (by omega) a1 hp W h2
      simp only [hO] at TX0 TR0
      have TX0 := Lib.hid TX0
      have TR0 := Lib.hid TR0
      have PA := Lib.hid (fun (w : World) (h : Laid5 w) => faultParse_any s (by omega) w h)
      have PR := Lib.hid (fun (w : World) => refParse_any s (by omega) w)
      clear hO hn hp
      go_enter Tryd.func4, Tryd.ntmps4
      go_wp2_with fail
      with_reducible refine (AW.out _ (laid5_below HL.out (by repeat' (first | (with_reducible assumption) | (with_reducible exact Below.refl _ _) | (with_reducible refine below_drewN ?_ _) | (with_reducible refine Below.drew ?_) | (with_reducible refine Below.setCell ?_ ?_ _) | (with_reducible refine Below.alloc ?_ ?_ _) | omega | (simp; done) | (simp; omega))))).mono ?_
      rintro en w1 ⟨rfl, hb1⟩
      have F1 : FC w1 w.heap.size e a (.slice ad n c) := (FC.new w _ _ _ _).beyond hb1
      have hw1 : Below w.heap.size w w1 := Below.trans (by repeat' (first | (with_reducible assumption) | (with_reducible exact Below.refl _ _) | (with_reducible refine below_drewN ?_ _) | (with_reducible refine Below.drew ?_) | (with_reducible refine Below.setCell ?_ ?_ _) | (with_reducible refine Below.alloc ?_ ?_ _) | omega | (simp; done) | (simp; omega))) (hb1.mono (by first | assumption | (simp; done) | (simp; omega)))
      have hz1 := hw1.size
      have c1 := F1
      obtain ⟨c1_0, c1_1, c1_2, c1z, c1l⟩ := c1
      clear hb1 c1z
      go_wp2_with fail
      have F1 := Lib.hid F1
      clear c1_0 c1_1 c1_2 c1l
      with_reducible refine (PA.out _ (laid5_below HL.out hw1)).mono ?_
      rintro en w2 ⟨hR2, hb2⟩
      have F2 := Lib.hid (F1.out.beyond hb2)
      have hw2 : Below w.heap.size w w2 := hw1.trans (hb2.mono hz1)
      have hz2 := hw2.size
      have hlw2 : w.heap.size < w2.heap.size := F2.out.2.2.2.2
      clear hb2 F1
      have hsl0 : s.data.toList.length = s.size := by simp
      have MAIN : ∃ (x y : Int) (q : List Int) (v : Value) (ok : Bool), en = .returned (.tuple #[.agg #[.int .i64 x, .int .i64 y, v], .bool ok]) ∧ OwnI w2 w1.heap.size v q ∧ q.length ≤ 1000000 ∧ (∀ (w3 w4 : World) (en3 : Ending), RetF s.data.toList w3 en3 w4 → ∃ v3, en3 = .returned (.tuple #[.agg #[.int .i64 x, .int .i64 y, v3], .bool ok]) ∧ OwnI w4 w3.heap.size v3 q) := by
        rcases hR2 with ⟨x, y, q, v, hP, hO, rfl⟩ | ⟨hN, rfl⟩
        · refine ⟨x, y, q, v, true, rfl, hO, par_len hP (by rw [hsl0]; omega), fun w3 w4 en3 h => ?_⟩
          rcases h.1 with ⟨x', y', q', v', hP', hO', rfl⟩ | ⟨hN', _⟩
          · obtain ⟨rfl, rfl, rfl⟩ := hP.uniq hP'
            exact ⟨v', rfl, hO'⟩
          · exact absurd hP (hN' _ _ _)
        · refine ⟨0, 0, [], _, false, rfl, OwnI.nil _ _, by simp, fun w3 w4 en3 h => ?_⟩
          rcases h.1 with ⟨x', y', q', v', hP', hO', rfl⟩ | ⟨_, rfl⟩
          · exact absurd hP' (hN _ _ _)
          · exact ⟨_, rfl, OwnI.nil _ _⟩
      obtain ⟨x, y, q, v, ok, rfl, hO2, hql, M3⟩ := MAIN
      obtain ⟨bd, d, rfl, hsl2⟩ := hO2.sl
      have M3 := Lib.hid M3
      have S2 := Lib.hid hsl2
      clear hO2 hsl2 hR2
      go_wp2_with fail
      with_reducible refine (PR.out _).mono ?_
      rintro en w3 hR3
      obtain ⟨v3, rfl, hO3⟩ := M3.out _ _ _ hR3
      have hb3 := hR3.2
      have G3 := Lib.hid ((FC.new w2 30 x y (.slice bd q.length d)).beyond hb3)
      have hb23 : Below w2.heap.size w2 w3 := Below.trans (by repeat' (first | (with_reducible assumption) | (with_reducible exact Below.refl _ _) | (with_reducible refine below_drewN ?_ _) | (with_reducible refine Below.drew ?_) | (with_reducible refine Below.setCell ?_ ?_ _) | (with_reducible refine Below.alloc ?_ ?_ _) | omega | (simp; done) | (simp; omega))) (hb3.mono (by first | assumption | (simp; done) | (simp; omega)))
      have F3 := Lib.hid (F2.out.below hb23 hlw2)
      have S3 := Lib.hid (S2.out.beyond hb23)
      have hw3 : Below w.heap.size w w3 := hw2.trans (hb23.mono hz2)
      have hz3 := hw3.size
      have hlw3 : w2.heap.size < w3.heap.size := G3.out.2.2.2.2
      obtain ⟨cd, k, rfl, hsl3⟩ := hO3.sl
      have T3 := Lib.hid hsl3
      clear hO3 hsl3 hR3 hb3 hb23 F2 S2 M3 PA PR hw2
      obtain ⟨g, hg⟩ : ∃ g, w2.heap.size = g := ⟨_, rfl⟩
      rw [hg] at G3 hlw3 hlw2
      go_wp2_with fail
      have W5 : ∃ w5 : World, w5 = w3.alloc (.cells #[.int .i64 x, .int .i64 y, .slice cd q.length k] 30) := ⟨_, rfl⟩
      obtain ⟨w5, hw5⟩ := W5
      have B5 : Below w3.heap.size w3 w5 := by rw [hw5]; exact (Below.refl _ _).alloc (Nat.le_refl _) _
      have F5 := F3.out.beyond B5
      have G5 := G3.out.beyond B5
      have K5 : FC w5 w3.heap.size x y (.slice cd q.length k) := by rw [hw5]; exact FC.new _ _ _ _ _
      have HB5 := Lib.hid (hw3.trans (B5.mono hz3))
      have S5 := S3.out.beyond B5
      have T5 := T3.out.beyond B5
      have HS5 := HS.out.beyond HB5.out
      have TX := Lib.hid (fun (W : World) (h : Below w5.heap.size w5 W) => TX0.out W (laid5_pow (laid5_below (laid5_below HL.out HB5.out) h)) (HS5.beyond h))
      have TR := Lib.hid (fun (W : World) (h : Below w5.heap.size w5 W) => TR0.out W (HS5.beyond h))
      have SM := Lib.hid (fun (W : World) (h : Below w5.heap.size w5 W) => same5_any x y bd cd q.length d k (gp q) hql W (S5.beyond h) (T5.beyond h))
      have hz5 : w3.heap.size < w5.heap.size := K5.2.2.2.2
      rw [← hw5]
      clear hw5 B5 S5 T5 HS5 F3 G3 S3 T3 TX0 TR0 HS HL
      obtain ⟨b, hb⟩ : ∃ b, w3.heap.size = b := ⟨_, rfl⟩
      rw [hb] at K5 hz5 hlw3
      obtain ⟨f0, f1, f2, fz, fl⟩ := F5
      obtain ⟨g0, g1, g2, gz, gl⟩ := G5
      obtain ⟨k0, k1, k2, kz, kl⟩ := K5
      clear fz gz kz
      try simp only [hg, hb]
      go_region_held3 (fun W => W.cell? ⟨w.heap.size, 0, none⟩ = some (.int .i64 e) ∧ W.cell? ⟨w.heap.size, 1, none⟩ = some (.int .i64 a) ∧ W.cell? ⟨w.heap.size, 2, none⟩ = some (.slice ad n c) ∧ W.cell? ⟨g, 0, none⟩ = some (.int .i64 x) ∧ W.cell? ⟨g, 1, none⟩ = some (.int .i64 y) ∧ W.cell? ⟨g, 2, none⟩ = some (.slice bd q.length d) ∧ W.cell? ⟨b, 0, none⟩ = some (.int .i64 x) ∧ W.cell? ⟨b, 1, none⟩ = some (.int .i64 y) ∧ W.cell? ⟨b, 2, none⟩ = some (.slice cd q.length k) ∧ w.heap.size < W.heap.size ∧ g < W.heap.size ∧ b < W.heap.size ∧ Below w5.heap.size w5 W) (((try dsimp only); (repeat' apply And.intro) <;> (first | assumption | (simp [*, go_sem]; done) | omega | (simp; omega) | (repeat' (first | (with_reducible assumption) | (with_reducible exact Below.refl _ _) | (with_reducible refine below_drewN ?_ _) | (with_reducible refine Below.drew ?_) | (with_reducible refine Below.setCell ?_ ?_ _) | (with_reducible refine Below.alloc ?_ ?_ _) | omega | (simp; done) | (simp; omega)))))) (first | (go_at_call 15; (with_reducible refine (TX.out _ (by first | assumption | (repeat' (first | (with_reducible assumption) | (with_reducible exact Below.refl _ _) | (with_reducible refine below_drewN ?_ _) | (with_reducible refine Below.drew ?_) | (with_reducible refine Below.setCell ?_ ?_ _) | (with_reducible refine Below.alloc ?_ ?_ _) | omega | (simp; done) | (simp; omega))))).mono ?_); rintro e w6 ⟨rfl, hb6⟩; have c6_0 : w6.cell? ⟨w.heap.size, 0, none⟩ = some (.int .i64 e) := (hb6.cell (p := ⟨w.heap.size, 0, none⟩) (by first | assumption | omega | (simp; done) | (simp; omega))).trans (by first | assumption | (simp [go_sem, *]; done)); have c6_1 : w6.cell? ⟨w.heap.size, 1, none⟩ = some (.int .i64 a) := (hb6.cell (p := ⟨w.heap.size, 1, none⟩) (by first | assumption | omega | (simp; done) | (simp; omega))).trans (by first | assumption | (simp [go_sem, *]; done)); have c6_2 : w6.cell? ⟨w.heap.size, 2, none⟩ = some (.slice ad n c) := (hb6.cell (p := ⟨w.heap.size, 2, none⟩) (by first | assumption | omega | (simp; done) | (simp; omega))).trans (by first | assumption | (simp [go_sem, *]; done)); have c6_3 : w6.cell? ⟨g, 0, none⟩ = some (.int .i64 x) := (hb6.cell (p := ⟨g, 0, none⟩) (by first | assumption | omega | (simp; done) | (simp; omega))).trans (by first | assumption | (simp [go_sem, *]; done)); have c6_4 : w6.cell? ⟨g, 1, none⟩ = some (.int .i64 y) := (hb6.cell (p := ⟨g, 1, none⟩) (by first | assumption | omega | (simp; done) | (simp; omega))).trans (by first | assumption | (simp [go_sem, *]; done)); have c6_5 : w6.cell? ⟨g, 2, none⟩ = some (.slice bd q.length d) := (hb6.cell (p := ⟨g, 2, none⟩) (by first | assumption | omega | (simp; done) | (simp; omega))).trans (by first | assumption | (simp [go_sem, *]; done)); have c6_6 : w6.cell? ⟨b, 0, none⟩ = some (.int .i64 x) := (hb6.cell (p := ⟨b, 0, none⟩) (by first | assumption | omega | (simp; done) | (simp; omega))).trans (by first | assumption | (simp [go_sem, *]; done)); have c6_7 : w6.cell? ⟨b, 1, none⟩ = some (.int .i64 y) := (hb6.cell (p := ⟨b, 1, none⟩) (by first | assumption | omega | (simp; done) | (simp; omega))).trans (by first | assumption | (simp [go_sem, *]; done)); have c6_8 : w6.cell? ⟨b, 2, none⟩ = some (.slice cd q.length k) := (hb6.cell (p := ⟨b, 2, none⟩) (by first | assumption | omega | (simp; done) | (simp; omega))).trans (by first | assumption | (simp [go_sem, *]; done)); have hl6_0 : w.heap.size < w6.heap.size := (by have hs := hb6.size; first | (simp at hs; omega) | omega); have hl6_1 : g < w6.heap.size := (by have hs := hb6.size; first | (simp at hs; omega) | omega); have hl6_2 : b < w6.heap.size := (by have hs := hb6.size; first | (simp at hs; omega) | omega); have hw6 : Below w5.heap.size w5 w6 := Below.trans (by first | assumption | (repeat' (first | (with_reducible assumption) | (with_reducible exact Below.refl _ _) | (with_reducible refine below_drewN ?_ _) | (with_reducible refine Below.drew ?_) | (with_reducible refine Below.setCell ?_ ?_ _) | (with_reducible refine Below.alloc ?_ ?_ _) | omega | (simp; done) | (simp; omega)))) (hb6.mono (by first | assumption | omega | (simp; done) | (simp; omega))); clear hb6; have hy6 := hw6.size) | (go_at_call 17; (with_reducible refine (SM.out _ (by first | assumption | (repeat' (first | (with_reducible assumption) | (with_reducible exact Below.refl _ _) | (with_reducible refine below_drewN ?_ _) | (with_reducible refine Below.drew ?_) | (with_reducible refine Below.setCell ?_ ?_ _) | (with_reducible refine Below.alloc ?_ ?_ _) | omega | (simp; done) | (simp; omega))))).mono ?_); rintro e w8 ⟨rfl, hb8⟩; have c8_0 : w8.cell? ⟨w.heap.size, 0, none⟩ = some (.int .i64 e) := (hb8.cell (p := ⟨w.heap.size, 0, none⟩) (by first | assumption | omega | (simp; done) | (simp; omega))).trans (by first | assumption | (simp [go_sem, *]; done)); have c8_1 : w8.cell? ⟨w.heap.size, 1, none⟩ = some (.int .i64 a) := (hb8.cell (p := ⟨w.heap.size, 1, none⟩) (by first | assumption | omega | (simp; done) | (simp; omega))).trans (by first | assumption | (simp [go_sem, *]; done)); have c8_2 : w8.cell? ⟨w.heap.size, 2, none⟩ = some (.slice ad n c) := (hb8.cell (p := ⟨w.heap.size, 2, none⟩) (by first | assumption | omega | (simp; done) | (simp; omega))).trans (by first | assumption | (simp [go_sem, *]; done)); have c8_3 : w8.cell? ⟨g, 0, none⟩ = some (.int .i64 x) := (hb8.cell (p := ⟨g, 0, none⟩) (by first | assumption | omega | (simp; done) | (simp; omega))).trans (by first | assumption | (simp [go_sem, *]; done)); have c8_4 : w8.cell? ⟨g, 1, none⟩ = some (.int .i64 y) := (hb8.cell (p := ⟨g, 1, none⟩) (by first | assumption | omega | (simp; done) | (simp; omega))).trans (by first | assumption | (simp [go_sem, *]; done)); have c8_5 : w8.cell? ⟨g, 2, none⟩ = some (.slice bd q.length d) := (hb8.cell (p := ⟨g, 2, none⟩) (by first | assumption | omega | (simp; done) | (simp; omega))).trans (by first | assumption | (simp [go_sem, *]; done)); have c8_6 : w8.cell? ⟨b, 0, none⟩ = some (.int .i64 x) := (hb8.cell (p := ⟨b, 0, none⟩) (by first | assumption | omega | (simp; done) | (simp; omega))).trans (by first | assumption | (simp [go_sem, *]; done)); have c8_7 : w8.cell? ⟨b, 1, none⟩ = some (.int .i64 y) := (hb8.cell (p := ⟨b, 1, none⟩) (by first | assumption | omega | (simp; done) | (simp; omega))).trans (by first | assumption | (simp [go_sem, *]; done)); have c8_8 : w8.cell? ⟨b, 2, none⟩ = some (.slice cd q.length k) := (hb8.cell (p := ⟨b, 2, none⟩) (by first | assumption | omega | (simp; done) | (simp; omega))).trans (by first | assumption | (simp [go_sem, *]; done)); have hl8_0 : w.heap.size < w8.heap.size := (by have hs := hb8.size; first | (simp at hs; omega) | omega); have hl8_1 : g < w8.heap.size := (by have hs := hb8.size; first | (simp at hs; omega) | omega); have hl8_2 : b < w8.heap.size := (by have hs := hb8.size; first | (simp at hs; omega) | omega); have hw8 : Below w5.heap.size w5 w8 := Below.trans (by first | assumption | (repeat' (first | (with_reducible assumption) | (with_reducible exact Below.refl _ _) | (with_reducible refine below_drewN ?_ _) | (with_reducible refine Below.drew ?_) | (with_reducible refine Below.setCell ?_ ?_ _) | (with_reducible refine Below.alloc ?_ ?_ _) | omega | (simp; done) | (simp; omega)))) (hb8.mono (by first | assumption | omega | (simp; done) | (simp; omega))); clear hb8; have hy8 := hw8.size) | (go_at_call 16; (with_reducible refine (TR.out _ (by first | assumption | (repeat' (first | (with_reducible assumption) | (with_reducible exact Below.refl _ _) | (with_reducible refine below_drewN ?_ _) | (with_reducible refine Below.drew ?_) | (with_reducible refine Below.setCell ?_ ?_ _) | (with_reducible refine Below.alloc ?_ ?_ _) | omega | (simp; done) | (simp; omega))))).mono ?_); rintro e w7 ⟨rfl, hb7⟩; have c7_0 : w7.cell? ⟨w.heap.size, 0, none⟩ = some (.int .i64 e) := (hb7.cell (p := ⟨w.heap.size, 0, none⟩) (by first | assumption | omega | (simp; done) | (simp; omega))).trans (by first | assumption | (simp [go_sem, *]; done)); have c7_1 : w7.cell? ⟨w.heap.size, 1, none⟩ = some (.int .i64 a) := (hb7.cell (p := ⟨w.heap.size, 1, none⟩) (by first | assumption | omega | (simp; done) | (simp; omega))).trans (by first | assumption | (simp [go_sem, *]; done)); have c7_2 : w7.cell? ⟨w.heap.size, 2, none⟩ = some (.slice ad n c) := (hb7.cell (p := ⟨w.heap.size, 2, none⟩) (by first | assumption | omega | (simp; done) | (simp; omega))).trans (by first | assumption | (simp [go_sem, *]; done)); have c7_3 : w7.cell? ⟨g, 0, none⟩ = some (.int .i64 x) := (hb7.cell (p := ⟨g, 0, none⟩) (by first | assumption | omega | (simp; done) | (simp; omega))).trans (by first | assumption | (simp [go_sem, *]; done)); have c7_4 : w7.cell? ⟨g, 1, none⟩ = some (.int .i64 y) := (hb7.cell (p := ⟨g, 1, none⟩) (by first | assumption | omega | (simp; done) | (simp; omega))).trans (by first | assumption | (simp [go_sem, *]; done)); have c7_5 : w7.cell? ⟨g, 2, none⟩ = some (.slice bd q.length d) := (hb7.cell (p := ⟨g, 2, none⟩) (by first | assumption | omega | (simp; done) | (simp; omega))).trans (by first | assumption | (simp [go_sem, *]; done)); have c7_6 : w7.cell? ⟨b, 0, none⟩ = some (.int .i64 x) := (hb7.cell (p := ⟨b, 0, none⟩) (by first | assumption | omega | (simp; done) | (simp; omega))).trans (by first | assumption | (simp [go_sem, *]; done)); have c7_7 : w7.cell? ⟨b, 1, none⟩ = some (.int .i64 y) := (hb7.cell (p := ⟨b, 1, none⟩) (by first | assumption | omega | (simp; done) | (simp; omega))).trans (by first | assumption | (simp [go_sem, *]; done)); have c7_8 : w7.cell? ⟨b, 2, none⟩ = some (.slice cd q.length k) := (hb7.cell (p := ⟨b, 2, none⟩) (by first | assumption | omega | (simp; done) | (simp; omega))).trans (by first | assumption | (simp [go_sem, *]; done)); have hl7_0 : w.heap.size < w7.heap.size := (by have hs := hb7.size; first | (simp at hs; omega) | omega); have hl7_1 : g < w7.heap.size := (by have hs := hb7.size; first | (simp at hs; omega) | omega); have hl7_2 : b < w7.heap.size := (by have hs := hb7.size; first | (simp at hs; omega) | omega); have hw7 : Below w5.heap.size w5 w7 := Below.trans (by first | assumption | (repeat' (first | (with_reducible assumption) | (with_reducible exact Below.refl _ _) | (with_reducible refine below_drewN ?_ _) | (with_reducible refine Below.drew ?_) | (with_reducible refine Below.setCell ?_ ?_ _) | (with_reducible refine Below.alloc ?_ ?_ _) | omega | (simp; done) | (simp; omega)))) (hb7.mono (by first | assumption | omega | (simp; done) | (simp; omega))); clear hb7; have hy7 := hw7.size))
      all_goals
        go_wp2_with fail
        go_ret
        exact ⟨by first | rfl | (simp; done), HB5.out.trans (Below.mono (by repeat' (first | (with_reducible assumption) | (with_reducible exact Below.refl _ _) | (with_reducible refine below_drewN ?_ _) | (with_reducible refine Below.drew ?_) | (with_reducible refine Below.setCell ?_ ?_ _) | (with_reducible refine Below.alloc ?_ ?_ _) | omega | (simp; done) | (simp; omega))) (by have := HB5.out.size; omega))⟩
    · clear hp
      go_enter Tryd.func4, Tryd.ntmps4
      go_wp2_with fail
      with_reducible refine (AW.out _ (laid5_below HL.out (by repeat' (first | (with_reducible assumption) | (with_reducible exact Below.refl _ _) | (with_reducible refine below_drewN ?_ _) | (with_reducible refine Below.drew ?_) | (with_reducible refine Below.setCell ?_ ?_ _) | (with_reducible refine Below.alloc ?_ ?_ _) | omega | (simp; done) | (simp; omega))))).mono ?_
      rintro en w1 ⟨rfl, hb1⟩
      have F1 : FC w1 w.heap.size e a (.slice ad n c) := (FC.new w _ _ _ _).beyond hb1
      have hw1 : Below w.heap.size w w1 := Below.trans (by repeat' (first | (with_reducible assumption) | (with_reducible exact Below.refl _ _) | (with_reducible refine below_drewN ?_ _) | (with_reducible refine Below.drew ?_) | (with_reducible refine Below.setCell ?_ ?_ _) | (with_reducible refine Below.alloc ?_ ?_ _) | omega | (simp; done) | (simp; omega))) (hb1.mono (by first | assumption | (simp; done) | (simp; omega)))
      have hz1 := hw1.size
      have c1 := F1
      obtain ⟨c1_0, c1_1, c1_2, c1z, c1l⟩ := c1
      clear hb1 c1z
      go_wp2_with fail
      go_ret
      exact ⟨rfl, by repeat' (first | (with_reducible assumption) | (with_reducible exact Below.refl _ _) | (with_reducible refine below_drewN ?_ _) | (with_reducible refine Below.drew ?_) | (with_reducible refine Below.setCell ?_ ?_ _) | (with_reducible refine Below.alloc ?_ ?_ _) | omega | (simp; done) | (simp; omega))⟩
  · clear hp
    go_enter Tryd.func4, Tryd.ntmps4
    go_wp2_with fail
    with_reducible refine (AW.out _ (laid5_below HL.out (by repeat' (first | (with_reducible assumption) | (with_reducible exact Below.refl _ _) | (with_reducible refine below_drewN ?_ _) | (with_reducible refine Below.drew ?_) | (with_reducible refine Below.setCell ?_ ?_ _) | (with_reducible refine Below.alloc ?_ ?_ _) | omega | (simp; done) | (simp; omega))))).mono ?_
    rintro en w1 ⟨rfl, hb1⟩
    have F1 : FC w1 w.heap.size e a (.slice ad n c) := (FC.new w _ _ _ _).beyond hb1
    have hw1 : Below w.heap.size w w1 := Below.trans (by repeat' (first | (with_reducible assumption) | (with_reducible exact Below.refl _ _) | (with_reducible refine below_drewN ?_ _) | (with_reducible refine Below.drew ?_) | (with_reducible refine Below.setCell ?_ ?_ _) | (with_reducible refine Below.alloc ?_ ?_ _) | omega | (simp; done) | (simp; omega))) (hb1.mono (by first | assumption | (simp; done) | (simp; omega)))
    have hz1 := hw1.size
    have c1 := F1
    obtain ⟨c1_0, c1_1, c1_2, c1z, c1l⟩ := c1
    clear hb1 c1z
    go_wp2_with fail
    go_ret
    exact ⟨rfl, by repeat' (first | (with_reducible assumption) | (with_reducible exact Below.refl _ _) | (with_reducible refine below_drewN ?_ _) | (with_reducible refine Below.drew ?_) | (with_reducible refine Below.setCell ?_ ?_ _) | (with_reducible refine Below.alloc ?_ ?_ _) | omega | (simp; done) | (simp; omega))⟩
end Go.Proofs.YthaphecoalepgaaDoor
