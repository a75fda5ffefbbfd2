/- The contract of fault.Parse: it tells the fault whose text this is, or none. Conditions: a text of at most 4000 bytes; the listed variables are laid. -/
import Derived.Test.YthaphecoalepgaaDoorFd
namespace Go.Proofs.YthaphecoalepgaaDoor
open Go.RowKit
set_option linter.unusedSimpArgs false
set_option linter.unusedVariables false

/-- What Parse of the text l tells. -/
def RetF (l : List UInt8) (w : World) (en : Ending) (w' : World) : Prop := ((∃ e a p v, Par l e a p ∧ OwnI w' w.heap.size v p ∧ en = .returned (.tuple #[.agg #[.int .i64 e, .int .i64 a, v], .bool true])) ∨ ((∀ e a p, ¬ Par l e a p) ∧ en = .returned (.tuple #[.agg #[.int .i64 0, .int .i64 0, .slice none 0 0], .bool false]))) ∧ Below w.heap.size w w'
theorem pieces_get {c : UInt8} {r : List UInt8} {K : Nat} (h : K < (pieces c r).length) : ∃ x, (pieces c r)[K]? = some x ∧ x ∈ pieces c r ∧ x.length ≤ r.length :=
  ⟨_, List.getElem?_eq_getElem h, List.getElem_mem _, pieces_le c r _ (List.getElem_mem _)⟩
theorem FC.new (w : World) (t : TypeId) (e a : Int) (v : Value) : FC (w.alloc (.cells #[.int .i64 e, .int .i64 a, v] t)) w.heap.size e a v :=
  ⟨by rw [World.cell?_alloc_at _ _ _ _ rfl]; rfl, by rw [World.cell?_alloc_at _ _ _ _ rfl]; rfl, by rw [World.cell?_alloc_at _ _ _ _ rfl]; rfl, fun i => by simp [go_sem], by simp⟩
theorem FC.alloc {w : World} {g : Nat} {e a : Int} {v : Value} (h : FC w g e a v) (o : Obj) : FC (w.alloc o) g e a v := h.beyond ((Below.refl _ _).alloc (Nat.le_refl _) o)
theorem FC.set1 {w : World} {g : Nat} {e a : Int} {v : Value} (h : FC w g e a v) (b : Int) : FC (w.setCell ⟨g, 1, none⟩ (.int .i64 b)) g e b v :=
  ⟨by rw [World.cell?_setCell_other _ _ _ _ (fun e => by injection e with _ h2; cases h2)]; exact h.1, World.cell?_setCell_same _ _ _ h.2.1, by rw [World.cell?_setCell_other _ _ _ _ (fun e => by injection e with _ h2; cases h2)]; exact h.2.2.1, fun i => by rw [World.frozen?_setCell]; exact h.2.2.2.1 i, by rw [World.size_setCell]; exact h.2.2.2.2⟩
theorem FC.set2 {w : World} {g : Nat} {e a : Int} {v : Value} (h : FC w g e a v) (u : Value) : FC (w.setCell ⟨g, 2, none⟩ u) g e a u :=
  ⟨by rw [World.cell?_setCell_other _ _ _ _ (fun e => by injection e with _ h2; cases h2)]; exact h.1, by rw [World.cell?_setCell_other _ _ _ _ (fun e => by injection e with _ h2; cases h2)]; exact h.2.1, World.cell?_setCell_same _ _ _ h.2.2.1, fun i => by rw [World.frozen?_setCell]; exact h.2.2.2.1 i, by rw [World.size_setCell]; exact h.2.2.2.2⟩
theorem FC.setOther {w : World} {g g' i : Nat} {e a : Int} {v u : Value} (h : FC w g e a v) (hne : g' ≠ g) : FC (w.setCell ⟨g', i, none⟩ u) g e a v :=
  ⟨by rw [World.cell?_setCell_other _ _ _ _ (fun e => hne (by injection e))]; exact h.1, by rw [World.cell?_setCell_other _ _ _ _ (fun e => hne (by injection e))]; exact h.2.1, by rw [World.cell?_setCell_other _ _ _ _ (fun e => hne (by injection e))]; exact h.2.2.1, fun i => by rw [World.frozen?_setCell]; exact h.2.2.2.1 i, by rw [World.size_setCell]; exact h.2.2.2.2⟩
theorem FC.setAll {w : World} {g : Nat} {e a e' a' : Int} {v : Value} (h : FC w g e a v) (u : Value) : FC (((w.setCell ⟨g, 0, none⟩ (.int .i64 e')).setCell ⟨g, 1, none⟩ (.int .i64 a')).setCell ⟨g, 2, none⟩ u) g e' a' u := by
  have h0 : FC (w.setCell ⟨g, 0, none⟩ (.int .i64 e')) g e' a v :=
    ⟨World.cell?_setCell_same _ _ _ h.1, by rw [World.cell?_setCell_other _ _ _ _ (fun e => by injection e with _ h2; cases h2)]; exact h.2.1, by rw [World.cell?_setCell_other _ _ _ _ (fun e => by injection e with _ h2; cases h2)]; exact h.2.2.1, fun i => by rw [World.frozen?_setCell]; exact h.2.2.2.1 i, by rw [World.size_setCell]; exact h.2.2.2.2⟩
  exact (h0.set1 a').set2 u
theorem below_setAll {B g : Nat} {w0 w : World} (h : Below B w0 w) (hg : B ≤ g) (x y z : Value) : Below B w0 (((w.setCell ⟨g, 0, none⟩ x).setCell ⟨g, 1, none⟩ y).setCell ⟨g, 2, none⟩ z) := ((h.setCell hg x).setCell hg y).setCell hg z
theorem laid5_pow {w : World} (h : Laid5 w) : PowTab w := h.1
theorem ok_inj : ∀ {x y : List Int}, x.map Lib.NumEnd.ok = y.map Lib.NumEnd.ok → x = y
  | [], [], _ => rfl
  | a :: x, b :: y, h => by
    simp only [List.map_cons, List.cons.injEq] at h
    obtain ⟨h1, h2⟩ := h
    injection h1 with h1
    rw [h1, ok_inj h2]
theorem vs_of_par {vs : List Int} {ps : List (List UInt8)} {a : Int} {p : List Int} (h : vs.map Lib.NumEnd.ok = ps.map Lib.atoiAll) (hp : ps = (a :: p).map fun v => Lib.decDigits v.toNat) (hb : ∀ v ∈ a :: p, 0 ≤ v ∧ v ≤ 9223372036854775807) : vs = a :: p := by
  refine ok_inj (h.trans ?_)
  rw [hp, List.map_map]
  refine List.map_congr_left (fun v hv => ?_)
  obtain ⟨h0, h1⟩ := hb v hv
  show Lib.atoiAll (Lib.decDigits v.toNat) = _
  rw [atoi_dec v.toNat (by omega)]
  congr 1
  omega
theorem vs_bound {vs : List Int} {ps : List (List UInt8)} (h : vs.map Lib.NumEnd.ok = ps.map Lib.atoiAll) : ∀ v ∈ vs, v ≤ 9223372036854775807 := by
  intro v hv
  have h1 : Lib.NumEnd.ok v ∈ ps.map Lib.atoiAll := by rw [← h]; exact List.mem_map_of_mem hv
  obtain ⟨x, _, hx⟩ := List.mem_map.1 h1
  exact (Lib.atoiAll_bounds hx).2
theorem par_vs {l A R : List UInt8} {e2 : Int} {vs : List Int} (hA : (64 : UInt8) ∉ A) (hl : l = A ++ 64 :: R) (h0 : 0 ≤ e2) (h13 : e2 < 13) (he : nmL e2 = A) (h : vs.map Lib.NumEnd.ok = (pieces 47 R).map Lib.atoiAll) {e a : Int} {p : List Int} (hp : Par l e a p) : e = e2 ∧ vs = a :: p := by
  obtain ⟨h1, h2⟩ := hp.at hA hl
  refine ⟨nmL_inj hp.1 (h1.symm.trans he.symm), vs_of_par h h2 (fun v hv => ?_)⟩
  rcases List.mem_cons.1 hv with rfl | hv
  · exact ⟨hp.2.1, hp.2.2.1⟩
  · exact hp.2.2.2.1 v hv
set_option maxHeartbeats 3200000 in
set_option maxRecDepth 100000 in
theorem faultParse_any (s : ByteArray) (hs : s.size ≤ 4000) (w : World) (hL : Laid5 w) :
    Calls Tryd.prog 13 #[.string s] w fun en w' => RetF s.data.toList w en w' := by
  obtain ⟨i0, hi, iz0, iz1, iz2⟩ := info_parts info_int
  have HL := Lib.hid hL
  have CT := Lib.hid (fun (w : World) (h : Laid5 w) => cut_any s (by omega) w h)
  clear hL
  by_cases hat : (64 : UInt8) ∈ s.data.toList
  · obtain ⟨A, R, hA, hl⟩ := first_of hat
    rw [hl, cut_hit hA] at CT
    have hsz : s.data.toList.length = s.size := by simp
    have hAR : A.length + R.length ≤ 4000 := by
      rw [hl] at hsz
      simp at hsz
      omega
    obtain ⟨sa, hsa⟩ : ∃ sa : ByteArray, (⟨A.toArray⟩ : ByteArray) = sa := ⟨_, rfl⟩
    obtain ⟨sr, hsr⟩ : ∃ sr : ByteArray, (⟨R.toArray⟩ : ByteArray) = sr := ⟨_, rfl⟩
    have hal : sa.data.toList = A := by rw [← hsa]
    have hrl : sr.data.toList = R := by rw [← hsr]
    have has : sa.size ≤ 4000 := by
      have e : sa.data.toList.length = sa.size := by simp
      rw [← e, hal]; omega
    have hrs : sr.size ≤ 4000 := by
      have e : sr.data.toList.length = sr.size := by simp
      rw [← e, hrl]; omega
    simp only [hsa, hsr] at CT
    have CD := Lib.hid (fun (w : World) => faultCode_any sa (by omega) w)
    rw [hal] at CD
    have SP := Lib.hid (fun (w : World) (h : Laid5 w) => split_any sr (by omega) w h)
    rw [hrl] at SP
    obtain ⟨N, hN⟩ : ∃ N, (pieces 47 R).length = N := ⟨_, rfl⟩
    have hN1 : 1 ≤ N ∧ N ≤ 4001 := by
      rw [← hN, pieces_len]
      have := List.count_le_length (a := (47 : UInt8)) (l := R)
      omega
    obtain ⟨hN1, hN2⟩ := hN1
    rw [hN] at SP
    have HN := Lib.hid hN
    have HA := Lib.hid hA
    have HS := Lib.hid hl
    have HX := Lib.hid hAR
    clear hN hsz hsa hsr hal hrl hA hl hAR hat
    go_enter Tryd.func13, Tryd.ntmps13
    go_wp2_with fail
    with_reducible refine (CT.out _ (laid5_below HL.out (by repeat' (first | (with_reducible assumption) | (with_reducible exact Below.refl _ _) | (with_reducible refine below_drewN ?_ _) | (with_reducible refine Below.drew ?_) | (with_reducible refine Below.setCell ?_ ?_ _) | (with_reducible refine Below.alloc ?_ ?_ _) | omega | (simp; done) | (simp; omega))))).mono ?_
    rintro e w1 ⟨rfl, hb1⟩
    have F1 : FC w1 w.heap.size 0 0 (.slice none 0 0) := (FC.new w _ 0 0 _).beyond hb1
    have hw1 : Below w.heap.size w w1 := Below.trans ((Below.refl _ _).alloc (Nat.le_refl _) _) (hb1.mono (by simp))
    have hz1 := hw1.size
    clear hb1
    go_wp2_with fail
    with_reducible refine (CD.out _).mono ?_
    rintro e w2 ⟨e2, b2, hc2, rfl, hb2⟩
    have F2 := F1.beyond hb2
    have hw2 : Below w.heap.size w w2 := hw1.trans (hb2.mono hz1)
    have hz2 := hw2.size
    clear hb2 F1 hw1 hz1
    have FH2 := Lib.hid F2
    obtain ⟨f20, f21, f22, f2z, f2l⟩ := F2
    have f2z0 := f2z 0
    have f2z1 := f2z 1
    have f2z2 := f2z 2
    rcases hc2 with ⟨rfl, e0, e13, enm⟩ | ⟨rfl, rfl, hno⟩
    · have HE := Lib.hid enm
      clear enm CD CT
      have hlt2 := f2l
      clear f20 f21 f22 f2z f2l f2z0 f2z1 f2z2
      go_wp2_with fail
      with_reducible refine (SP.out _ (laid5_below HL.out (by repeat' (first | (with_reducible assumption) | (with_reducible exact Below.refl _ _) | (with_reducible refine below_drewN ?_ _) | (with_reducible refine Below.drew ?_) | (with_reducible refine Below.setCell ?_ ?_ _) | (with_reducible refine Below.alloc ?_ ?_ _) | omega | (simp; done) | (simp; omega))))).mono ?_
      rintro e w3 ⟨rfl, hrow, hb3⟩
      have G3 : FC w3 w2.heap.size e2 0 (.slice none 0 0) := (FC.new w2 _ e2 0 _).beyond hb3
      have hb23 : Below w2.heap.size w2 w3 := Below.trans (by repeat' (first | (with_reducible assumption) | (with_reducible exact Below.refl _ _) | (with_reducible refine below_drewN ?_ _) | (with_reducible refine Below.drew ?_) | (with_reducible refine Below.setCell ?_ ?_ _) | (with_reducible refine Below.alloc ?_ ?_ _) | omega | (simp; done) | (simp; omega))) (hb3.mono (by first | assumption | (simp; done) | (simp; omega)))
      have F3 : FC w3 w.heap.size 0 0 (.slice none 0 0) := FH2.out.below hb23 hlt2
      have hw3 : Below w.heap.size w w3 := hw2.trans (hb23.mono hz2)
      have hr3 : StrRow w3 (w2.heap.size + 1) (pieces 47 R) := by simpa using hrow
      have hz3 : w2.heap.size + 2 ≤ w3.heap.size := hr3.1
      clear hrow hb3 hb23 SP FH2
      obtain ⟨g, hg⟩ : ∃ g, w2.heap.size = g := ⟨_, rfl⟩
      have hgw : w.heap.size < g := by omega
      clear hw2 hz2
      have ST := Lib.hid (show FC w3 g e2 0 (.slice none 0 0) ∧ StrRow w3 (g + 1) (pieces 47 R) ∧ g + 2 ≤ w3.heap.size by rw [← hg]; exact ⟨G3, hr3, hz3⟩)
      clear G3 hr3 hz3
      have F3 := Lib.hid F3
      go_wp2_with fail
      go_loopw [37] (fun i wr => ∃ (K : Nat) (vs : List Int) (v : Value), i = .int .i64 K ∧ K ≤ N ∧ vs.length = K ∧ Hid (vs.map Lib.NumEnd.ok = ((pieces 47 R).take K).map Lib.atoiAll) ∧ Hid (FC wr w.heap.size 0 0 (.slice none 0 0)) ∧ Hid (FC wr g e2 (vs.headD 0) v) ∧ Hid (OwnI wr (g + 2) v vs.tail) ∧ Hid (StrRow wr (g + 1) (pieces 47 R)) ∧ Below w.heap.size w wr ∧ g + 2 ≤ wr.heap.size) (fun i _ => N - (intOf i).toNat)
      case atStart => exact ⟨0, [], .slice none 0 0, rfl, Nat.zero_le _, rfl, Lib.hid (by simp), F3, Lib.hid ST.out.1, Lib.hid (OwnI.nil _ _), Lib.hid ST.out.2.1, hw3, ST.out.2.2⟩
      case round =>
        obtain ⟨K, vs, v, rfl, hK, hvl, HVS, HF, HG, HO, HR, hbw, hgz⟩ := hrel
        obtain ⟨wo, rfl⟩ : ∃ wo : World, wo = wr := ⟨_, rfl⟩
        have hzo := hbw.size
        clear ST F3 hw3
        by_cases hlt : K < N
        · obtain ⟨x, hx, hxm, hxl⟩ := pieces_get (c := 47) (r := R) (K := K) (by rw [HN.out]; exact hlt)
          obtain ⟨sx, hsx⟩ : ∃ sx : ByteArray, (⟨x.toArray⟩ : ByteArray) = sx := ⟨_, rfl⟩
          have hxs : sx.data.toList = x := by rw [← hsx]
          have hx4 : sx.size ≤ 100000 := by
            have e : sx.data.toList.length = sx.size := by simp
            have := HX.out
            rw [← e, hxs]; omega
          have ck := HR.out.2 K x hx
          rw [hsx] at ck
          have hrl := HR.out.1
          have HTK : Hid ((pieces 47 R).take (K + 1) = (pieces 47 R).take K ++ [x]) := Lib.hid (by
            obtain ⟨h1, h2⟩ := List.getElem?_eq_some_iff.1 hx
            rw [List.take_succ_eq_append_getElem h1, h2])
          have k0 : (0 : Int) ≤ (K : Int) := by omega
          have k1 : (K : Int) < (N : Int) := by omega
          by_cases hok : ∃ u, Lib.atoiAll x = .ok u
          · obtain ⟨u, hu⟩ := hok
            have AK := Lib.hid (fun (w : World) => atoi_ok sx hx4 u (by rw [hxs]; exact hu) w)
            have HV2 : Hid ((vs ++ [u]).map Lib.NumEnd.ok = ((pieces 47 R).take (K + 1)).map Lib.atoiAll) := Lib.hid (by
              rw [HTK.out, List.map_append, List.map_append, HVS.out, List.map_singleton, List.map_singleton, hu])
            clear hx hxm hxl hsx hxs hu HTK HVS
            go_wp2_with fail
            with_reducible refine (AK.out _).mono ?_
            rintro e w4 ⟨rfl, hb4⟩
            have HF4 := Lib.hid (HF.out.beyond hb4)
            have HG4 := Lib.hid (HG.out.beyond hb4)
            have HO4 := Lib.hid (HO.out.beyond hb4)
            have HR4 := Lib.hid (HR.out.beyond hb4)
            have hw4 := hbw.trans (hb4.mono hzo)
            have hz4 : g + 2 ≤ w4.heap.size := Nat.le_trans hgz hb4.size
            clear hb4 HF HG HO HR hbw hgz AK ck hrl hzo
            by_cases hK0 : K = 0
            · subst hK0
              obtain rfl : vs = [] := List.eq_nil_of_length_eq_zero hvl
              have S1 := Lib.hid (HG4.out.set1 u)
              have S2 := Lib.hid (HF4.out.setOther (g' := g) (i := 1) (u := .int .i64 u) (by omega))
              have S3 := Lib.hid (HO4.out.set (g := g) (i := 1) (u := .int .i64 u) (by omega))
              have S4 := Lib.hid (HR4.out.set (g' := g) (i := 1) (u := .int .i64 u) (by omega))
              have hw5 := hw4.setCell (p := ⟨g, 1, none⟩) (by show w.heap.size ≤ g; omega) (.int .i64 u)
              have hz5 : g + 2 ≤ (w4.setCell ⟨g, 1, none⟩ (.int .i64 u)).heap.size := by rw [World.size_setCell]; exact hz4
              have cg := HG4.out.2.1
              have cz := HG4.out.2.2.2.1 1
              have cl := HG4.out.2.2.2.2
              go_wp2_with fail
              go_roundw
              case rel => exact ⟨1, [u], _, by go_num, hN1, rfl, HV2, S2, S1, S3, S4, hw5, hz5⟩
              case measure => simp [intOf]; omega
            · have kq : ((K : Int) == 0) = false := beq_eq_false_iff_ne.2 (by omega)
              obtain ⟨y, ys, rfl⟩ : ∃ y ys, vs = y :: ys := by
                cases vs with
                | nil => exact absurd hvl.symm hK0
                | cons y ys => exact ⟨y, ys, rfl⟩
              have hyl : ys.length ≤ 4001 := by simp at hvl; omega
              have hO := HO4.out
              have hlen6 : (ys ++ [u]).length = ys.length + 1 := by simp
              have cg := HG4.out.2.2.1
              have cz := HG4.out.2.2.2.1 2
              have cl := HG4.out.2.2.2.2
              go_wp2_with (at_builtin; refine wpList_append_own _ rfl _ _ 28 rfl (g + 2) 3 i0 (.int .i64 0) 1 8 Tryd.underlying28 hi iz0 iz1 iz2 rfl (by decide) v ys.length _ rfl (hO.alloc _) ⟨w4.heap.size, 0, none⟩ 1 1 [.int .i64 u] rfl rfl (cell_one_new _ _ _) one_int (by unfold maxLen; omega) (by omega) (by first | assumption | (simp; omega)) ?_; intro v6 w6 hown6 hgrow6 _; have O6 := OwnI.app hown6; obtain ⟨ad6, c6, hv6, hs6⟩ := O6.sl; rw [hlen6] at hv6; subst hv6; have hb6 : Below (g + 2) w4 w6 := Below.grown ((Below.refl _ _).alloc hz4 _) hgrow6 (by first | assumption | (simp; omega)) (fun k hk => hO.lt k hk); have G6 := HG4.out.below hb6 (by omega); have cg6 := G6.2.2.1; have cz6 := G6.2.2.2.1 2; have cl6 := G6.2.2.2.2; clear cg cz cl)
              have F6 := HF4.out.below hb6 (by omega)
              have R6 := HR4.out.below hb6 (by omega)
              have hw6 : Below w.heap.size w w6 := hw4.trans (hb6.mono (by omega))
              have hz6 : g + 2 ≤ w6.heap.size := Nat.le_trans hz4 hb6.size
              clear hown6 hgrow6 hb6 hO
              have S1 := Lib.hid (G6.set2 (.slice ad6 (ys.length + 1) c6))
              have S2 := Lib.hid (F6.setOther (g' := g) (i := 2) (u := .slice ad6 (ys.length + 1) c6) (by omega))
              have S3 := Lib.hid (O6.set (g := g) (i := 2) (u := .slice ad6 (ys.length + 1) c6) (by omega))
              have S4 := Lib.hid (R6.set (g' := g) (i := 2) (u := .slice ad6 (ys.length + 1) c6) (by omega))
              have hw7 := hw6.setCell (p := ⟨g, 2, none⟩) (by show w.heap.size ≤ g; omega) (.slice ad6 (ys.length + 1) c6)
              have hz7 : g + 2 ≤ (w6.setCell ⟨g, 2, none⟩ (.slice ad6 (ys.length + 1) c6)).heap.size := by rw [World.size_setCell]; exact hz6
              clear O6 F6 G6 R6 HF4 HG4 HO4 HR4 hw4
              go_wp2_with fail
              go_roundw
              case rel => exact ⟨K + 1, y :: (ys ++ [u]), _, by go_num, by omega, by simp at hvl ⊢; omega, HV2, S2, S1, S3, S4, hw7, hz7⟩
              case measure => simp [intOf]; omega
          · have AN := Lib.hid (fun (w : World) (h : Laid5 w) => atoi_no sx hx4 (by rw [hxs]; intro u hu; exact hok ⟨u, hu⟩) w h)
            have HNO : Hid (∀ e a p, ¬ Par s.data.toList e a p) := Lib.hid (fun e a p hp => by
              obtain ⟨u, hu, hd⟩ := hp.all HA.out HS.out x hxm
              exact hok ⟨u, by rw [← hd]; exact atoi_dec u hu⟩)
            clear hx hxm hxl hsx hxs HTK HVS hok
            go_wp2_with fail
            with_reducible refine (AN.out _ (laid5_below HL.out (by repeat' (first | (with_reducible assumption) | (with_reducible exact Below.refl _ _) | (with_reducible refine below_drewN ?_ _) | (with_reducible refine Below.drew ?_) | (with_reducible refine Below.setCell ?_ ?_ _) | (with_reducible refine Below.alloc ?_ ?_ _) | omega | (simp; done) | (simp; omega))))).mono ?_
            rintro e w4 ⟨⟨u, M, rfl⟩, hb4⟩
            have F4 := HF.out.beyond hb4
            have hw4 := hbw.trans (hb4.mono hzo)
            clear hb4 HF HG HO HR hbw AN ck
            have HF4 := Lib.hid F4
            obtain ⟨f40, f41, f42, f4z, f4l⟩ := F4
            have f4z0 := f4z 0
            have f4z1 := f4z 1
            have f4z2 := f4z 2
            go_wp2_with fail
            have F5 := (show FC w4 w.heap.size 0 0 (.slice none 0 0) from HF4.out).setAll (e' := 0) (a' := 0) (.slice none 0 0)
            have hw5 := below_setAll (B := w.heap.size) (g := w.heap.size) (w0 := w) (w := w4) (by repeat' (first | (with_reducible assumption) | (with_reducible exact Below.refl _ _) | (with_reducible refine below_drewN ?_ _) | (with_reducible refine Below.drew ?_) | (with_reducible refine Below.setCell ?_ ?_ _) | (with_reducible refine Below.alloc ?_ ?_ _) | omega | (simp; done) | (simp; omega))) (Nat.le_refl _) (.int .i64 (0)) (.int .i64 (0)) (.slice none 0 0)
            clear f40 f41 f42 f4z f4l f4z0 f4z1 f4z2 HF4
            generalize ((World.setCell w4 ⟨w.heap.size, 0, none⟩ (.int .i64 (0))).setCell ⟨w.heap.size, 1, none⟩ (.int .i64 (0))).setCell ⟨w.heap.size, 2, none⟩ (.slice none 0 0) = w5 at *
            obtain ⟨f50, f51, f52, f5z, f5l⟩ := F5
            refine bodyPost_ret (v := .tuple #[.agg #[.int .i64 (0), .int .i64 (0), .slice none 0 0], .bool false]) (by simp (maxDischargeDepth := 6) [results, Tryd.results13, go_sem, f50, f51, f52]) rfl ?_
            exact ⟨Or.inr ⟨HNO.out, rfl⟩, hw5⟩
        · obtain rfl : K = N := by omega
          obtain ⟨y, ys, rfl⟩ : ∃ y ys, vs = y :: ys := by
            cases vs with
            | nil => simp at hvl; omega
            | cons y ys => exact ⟨y, ys, rfl⟩
          have hfull : (pieces 47 R).take K = pieces 47 R := List.take_of_length_le (by rw [HN.out]; exact Nat.le_refl _)
          have hvs := HVS.out
          rw [hfull] at hvs
          have hbd := vs_bound hvs
          have hyl : ys.length ≤ 4001 := by simp at hvl; omega
          obtain ⟨ad, c, rfl, hsl⟩ := OwnI.sl HO.out
          simp only [List.tail_cons] at hsl
          have hG : FC wo g e2 y (.slice ad ys.length c) := HG.out
          have TX := Lib.hid (fun (W : World) (h : PowTab W) (h2 : Sl .i64 W ad ys.length (gp ys)) => faultText_any e2 y ad ys.length c ys rfl (by omega) (hbd y List.mem_cons_self) (fun v hv => hbd v (List.mem_cons_of_mem _ hv)) W h h2)
          obtain ⟨O, hO⟩ : ∃ O : ByteArray, (⟨(txtL e2 y ys).toArray⟩ : ByteArray) = O := ⟨_, rfl⟩
          rw [hO] at TX
          have hol : O.data.toList = txtL e2 y ys := by rw [← hO]
          have HSL := Lib.hid hsl
          have HGG := Lib.hid hG
          have HBD := Lib.hid hbd
          have HV := Lib.hid hvs
          clear hfull hvs hbd hsl hO HVS HG
          obtain ⟨cg0, cg1, cg2, cgz, cgl⟩ := HGG.out
          have cgz0 := cgz 0
          have cgz1 := cgz 1
          have cgz2 := cgz 2
          by_cases hq : O = s
          · have hq2 : (O.toList == s.toList) = true := by rw [hq]; exact beq_self_eq_true _
            have HP : Hid (Par s.data.toList e2 y ys) := Lib.hid (Par.of (by rw [HS.out]; simp) (HBD.out y List.mem_cons_self) (fun v hv => HBD.out v (List.mem_cons_of_mem _ hv)) (by rw [← hol, hq]))
            clear hol
            go_wp2_with fail
            with_reducible refine (TX.out _ (laid5_pow (laid5_below HL.out hbw)) HSL.out).mono ?_
            rintro e w4 ⟨rfl, hb4⟩
            have F4 := HF.out.beyond hb4
            have G4 := HGG.out.beyond hb4
            have O4 := Lib.hid (HO.out.beyond hb4)
            have hw4 := hbw.trans (hb4.mono hzo)
            clear hb4 HF HGG HO HR TX cg0 cg1 cg2 cgz cgz0 cgz1 cgz2
            have HF4 := Lib.hid F4
            obtain ⟨f40, f41, f42, f4z, f4l⟩ := F4
            have f4z0 := f4z 0
            have f4z1 := f4z 1
            have f4z2 := f4z 2
            obtain ⟨d40, d41, d42, d4z, d4l⟩ := G4
            go_wp2_with fail
            have F5 := (show FC w4 w.heap.size 0 0 (.slice none 0 0) from HF4.out).setAll (e' := e2) (a' := y) (.slice ad ys.length c)
            have hw5 := below_setAll (B := w.heap.size) (g := w.heap.size) (w0 := w) (w := w4) (by repeat' (first | (with_reducible assumption) | (with_reducible exact Below.refl _ _) | (with_reducible refine below_drewN ?_ _) | (with_reducible refine Below.drew ?_) | (with_reducible refine Below.setCell ?_ ?_ _) | (with_reducible refine Below.alloc ?_ ?_ _) | omega | (simp; done) | (simp; omega))) (Nat.le_refl _) (.int .i64 (e2)) (.int .i64 (y)) (.slice ad ys.length c)
            have O5 := Lib.hid (OwnI.mono (((O4.out.set (g := w.heap.size) (i := 0) (u := .int .i64 e2) (by omega)).set (g := w.heap.size) (i := 1) (u := .int .i64 y) (by omega)).set (g := w.heap.size) (i := 2) (u := .slice ad ys.length c) (by omega)) (show w.heap.size ≤ g + 2 by omega))
            clear f40 f41 f42 f4z f4l f4z0 f4z1 f4z2 HF4 d40 d41 d42 d4z d4l O4
            generalize ((World.setCell w4 ⟨w.heap.size, 0, none⟩ (.int .i64 (e2))).setCell ⟨w.heap.size, 1, none⟩ (.int .i64 (y))).setCell ⟨w.heap.size, 2, none⟩ (.slice ad ys.length c) = w5 at *
            obtain ⟨f50, f51, f52, f5z, f5l⟩ := F5
            refine bodyPost_ret (v := .tuple #[.agg #[.int .i64 (e2), .int .i64 (y), .slice ad ys.length c], .bool true]) (by simp (maxDischargeDepth := 6) [results, Tryd.results13, go_sem, f50, f51, f52]) rfl ?_
            exact ⟨Or.inl ⟨e2, y, ys, _, HP.out, O5.out, rfl⟩, hw5⟩
          · have hq2 : (O.toList == s.toList) = false := by
              rw [ByteArray.toList_eq, ByteArray.toList_eq]
              exact beq_eq_false_iff_ne.2 (fun h => hq (str_ext h))
            have HNO : Hid (∀ e a p, ¬ Par s.data.toList e a p) := Lib.hid (fun e a p hp => by
              obtain ⟨rfl, h2⟩ := par_vs HA.out HS.out e0 e13 HE.out HV.out hp
              injection h2 with h3 h4
              subst h3 h4
              exact hq (str_ext (by rw [hol, hp.text])))
            clear hol hq
            go_wp2_with fail
            with_reducible refine (TX.out _ (laid5_pow (laid5_below HL.out hbw)) HSL.out).mono ?_
            rintro e w4 ⟨rfl, hb4⟩
            have F4 := HF.out.beyond hb4
            have hw4 := hbw.trans (hb4.mono hzo)
            clear hb4 HF HGG HO HR TX cg0 cg1 cg2 cgz cgz0 cgz1 cgz2
            have HF4 := Lib.hid F4
            obtain ⟨f40, f41, f42, f4z, f4l⟩ := F4
            have f4z0 := f4z 0
            have f4z1 := f4z 1
            have f4z2 := f4z 2
            go_wp2_with fail
            have F5 := (show FC w4 w.heap.size 0 0 (.slice none 0 0) from HF4.out).setAll (e' := 0) (a' := 0) (.slice none 0 0)
            have hw5 := below_setAll (B := w.heap.size) (g := w.heap.size) (w0 := w) (w := w4) (by repeat' (first | (with_reducible assumption) | (with_reducible exact Below.refl _ _) | (with_reducible refine below_drewN ?_ _) | (with_reducible refine Below.drew ?_) | (with_reducible refine Below.setCell ?_ ?_ _) | (with_reducible refine Below.alloc ?_ ?_ _) | omega | (simp; done) | (simp; omega))) (Nat.le_refl _) (.int .i64 (0)) (.int .i64 (0)) (.slice none 0 0)
            clear f40 f41 f42 f4z f4l f4z0 f4z1 f4z2 HF4
            generalize ((World.setCell w4 ⟨w.heap.size, 0, none⟩ (.int .i64 (0))).setCell ⟨w.heap.size, 1, none⟩ (.int .i64 (0))).setCell ⟨w.heap.size, 2, none⟩ (.slice none 0 0) = w5 at *
            obtain ⟨f50, f51, f52, f5z, f5l⟩ := F5
            refine bodyPost_ret (v := .tuple #[.agg #[.int .i64 (0), .int .i64 (0), .slice none 0 0], .bool false]) (by simp (maxDischargeDepth := 6) [results, Tryd.results13, go_sem, f50, f51, f52]) rfl ?_
            exact ⟨Or.inr ⟨HNO.out, rfl⟩, hw5⟩
    · have HNO := Lib.hid (no_par_nm HA.out HS.out hno)
      clear hno
      go_wp2_with fail
      have F3 := (show FC w2 w.heap.size 0 0 (.slice none 0 0) from ⟨f20, f21, f22, f2z, f2l⟩).setAll (e' := 0) (a' := 0) (.slice none 0 0)
      have hw3 := below_setAll (B := w.heap.size) (g := w.heap.size) (w0 := w) (w := w2) (by repeat' (first | (with_reducible assumption) | (with_reducible exact Below.refl _ _) | (with_reducible refine below_drewN ?_ _) | (with_reducible refine Below.drew ?_) | (with_reducible refine Below.setCell ?_ ?_ _) | (with_reducible refine Below.alloc ?_ ?_ _) | omega | (simp; done) | (simp; omega))) (Nat.le_refl _) (.int .i64 (0)) (.int .i64 (0)) (.slice none 0 0)
      clear f20 f21 f22 f2z f2l f2z0 f2z1 f2z2
      generalize ((World.setCell w2 ⟨w.heap.size, 0, none⟩ (.int .i64 (0))).setCell ⟨w.heap.size, 1, none⟩ (.int .i64 (0))).setCell ⟨w.heap.size, 2, none⟩ (.slice none 0 0) = w3 at *
      obtain ⟨f30, f31, f32, f3z, f3l⟩ := F3
      refine bodyPost_ret (v := .tuple #[.agg #[.int .i64 (0), .int .i64 (0), .slice none 0 0], .bool false]) (by simp (maxDischargeDepth := 6) [results, Tryd.results13, go_sem, f30, f31, f32]) rfl ?_
      exact ⟨Or.inr ⟨HNO.out, rfl⟩, hw3⟩
  · rw [cut_miss hat] at CT
    have hsd : (⟨s.data.toList.toArray⟩ : ByteArray) = s := ByteArray.ext (by simp)
    simp only [hsd] at CT
    have CD := Lib.hid (fun (w : World) => faultCode_any s (by omega) w)
    have HNO := Lib.hid (no_par_at hat)
    clear hat hsd
    go_enter Tryd.func13, Tryd.ntmps13
    go_wp2_with fail
    with_reducible refine (CT.out _ (laid5_below HL.out (by repeat' (first | (with_reducible assumption) | (with_reducible exact Below.refl _ _) | (with_reducible refine below_drewN ?_ _) | (with_reducible refine Below.drew ?_) | (with_reducible refine Below.setCell ?_ ?_ _) | (with_reducible refine Below.alloc ?_ ?_ _) | omega | (simp; done) | (simp; omega))))).mono ?_
    rintro e w1 ⟨rfl, hb1⟩
    have F1 : FC w1 w.heap.size 0 0 (.slice none 0 0) := (FC.new w _ 0 0 _).beyond hb1
    have hw1 : Below w.heap.size w w1 := Below.trans ((Below.refl _ _).alloc (Nat.le_refl _) _) (hb1.mono (by simp))
    have hz1 := hw1.size
    clear hb1
    go_wp2_with fail
    with_reducible refine (CD.out _).mono ?_
    rintro e w2 ⟨e2, b2, hc2, rfl, hb2⟩
    have F2 := F1.beyond hb2
    have hw2 : Below w.heap.size w w2 := hw1.trans (hb2.mono hz1)
    have hz2 := hw2.size
    clear hb2 F1 hc2
    obtain ⟨f20, f21, f22, f2z, f2l⟩ := F2
    have f2z0 := f2z 0
    have f2z1 := f2z 1
    have f2z2 := f2z 2
    go_wp2_with fail
    have F3 := (show FC w2 w.heap.size 0 0 (.slice none 0 0) from ⟨f20, f21, f22, f2z, f2l⟩).setAll (e' := 0) (a' := 0) (.slice none 0 0)
    have hw3 := below_setAll hw2 (Nat.le_refl _) (.int .i64 0) (.int .i64 0) (.slice none 0 0)
    clear f20 f21 f22 f2z f2l f2z0 f2z1 f2z2
    generalize ((w2.setCell ⟨w.heap.size, 0, none⟩ (.int .i64 0)).setCell ⟨w.heap.size, 1, none⟩ (.int .i64 0)).setCell ⟨w.heap.size, 2, none⟩ (.slice none 0 0) = w3 at *
    obtain ⟨f30, f31, f32, f3z, f3l⟩ := F3
    refine bodyPost_ret (v := .tuple #[.agg #[.int .i64 0, .int .i64 0, .slice none 0 0], .bool false]) (by simp (maxDischargeDepth := 6) [results, Tryd.results13, go_sem, f30, f31, f32]) rfl ?_
    exact ⟨Or.inr ⟨HNO.out, rfl⟩, hw3⟩
end Go.Proofs.YthaphecoalepgaaDoor
