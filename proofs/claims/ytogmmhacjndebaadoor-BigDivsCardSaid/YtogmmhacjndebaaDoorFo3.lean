/- Contracts of package wave: Fold. Conditions: as each says. -/
import Derived.Test.YtogmmhacjndebaaDoorFo2
namespace Go.Proofs.YtogmmhacjndebaaDoor
open Go.RowKit
set_option linter.unusedSimpArgs false
set_option linter.unusedVariables false
attribute [local irreducible] Fl.K

theorem info_int : (Tryd.prog.info? 3).map (fun i => (i.zero, i.size, i.bytes)) = some (some (.int .i64 0), 1, 8) := by kernel_rfl
def oi (a : Nat → Int) (t : Nat) : Value := .int .i64 (a t)
theorem owns_row {w : World} {base : Nat} {e : TypeId} {size : Nat} {v : Value} {n : Nat} {xs : List Value} (h : w.ownsRow base e size v n xs) (hn : 0 < n) (G : Nat → Value) (hG : ∀ t, t < n * size → xs[t]? = some (G t)) :
    ∃ g cap, v = .slice (some ⟨g, 0, none⟩) n cap ∧ base ≤ g ∧ n ≤ cap ∧ Row w g (n * size) G := by
  rcases h.2 with ⟨_, h0⟩ | ⟨g, cap, cur, rfl, hb, hgg, hnc, _, _, htake⟩
  · omega
  · refine ⟨g, cap, rfl, hb, hnc, fun t ht => ?_, fun t _ => ?_, (Array.getElem?_eq_some_iff.1 hgg).1⟩
    · have := h.cells (g := g) rfl t (G t) (hG t ht)
      have hadd : (⟨g, 0, none⟩ : Addr).add t = ⟨g, t, none⟩ := by unfold Addr.add; split <;> simp_all
      rw [hadd] at this
      exact this
    · unfold World.frozen?
      rw [hgg]
      simp
theorem made_get {v : Value} (hv : v = .int .i64 0) {n t : Nat} (h : t < n) : ((madeCells v.cells n).toList)[t]? = some (oi (fun _ => 0) t) := by
  have e : v.cells = #[.int .i64 0] := by rw [hv]; rfl
  rw [e, toList_madeCells_one, List.getElem?_replicate, if_pos h]
  rfl
theorem owns_row_at {w : World} {base : Nat} {e : TypeId} {size g c : Nat} {n : Nat} {xs : List Value} (h : w.ownsRow base e size (.slice (some ⟨g, 0, none⟩) n c) n xs) (hn : 0 < n) (G : Nat → Value) (hG : ∀ t, t < n * size → xs[t]? = some (G t)) : Row w g (n * size) G := by
  obtain ⟨g', cap, hv, _, _, r⟩ := owns_row h hn G hG
  injection hv with hv _ _
  injection hv with hv
  injection hv with hv _ _
  subst hv
  exact r
def RetI (h : Nat → Int) (L : Nat) (w : World) (e : Ending) (w' : World) : Prop := ∃ v, e = .returned (.tuple #[v, .bool true]) ∧ w'.ownsRow w.heap.size 3 1 v L ((List.range L).map fun t => Value.int .i64 (h t)) ∧ Below w.heap.size w w'
def pg (X Y : Nat → Nat → Nat) (t : Nat) : Value := .complex .f64 (X (t / 4) (t % 4)) (Y (t / 4) (t % 4))
theorem pcells_pg (X Y : Nat → Nat → Nat) (m t : Nat) (ht : t < m * 4) : (pcells X Y m)[t]? = some (pg X Y t) := by
  have := pcells_get X Y m (t / 4) (t % 4) (by omega) (by omega)
  rw [show 4 * (t / 4) + t % 4 = t from by omega] at this
  exact this
theorem pg_at (X Y : Nat → Nat → Nat) (i k : Nat) (hk : k < 4) : pg X Y (i * 4 + k) = .complex .f64 (X i k) (Y i k) := by
  unfold pg
  rw [show (i * 4 + k) / 4 = i from by omega, show (i * 4 + k) % 4 = k from by omega]

theorem pg_cells {w : World} {b N : Nat} {X Y : Nat → Nat → Nat} (r : Row w b (N * 4) (pg X Y)) (I : Nat) (hI : I < N) :
    w.cell? ⟨b, I * 4, none⟩ = some (.complex .f64 (X I 0) (Y I 0)) ∧ w.cell? ⟨b, I * 4 + 1, none⟩ = some (.complex .f64 (X I 1) (Y I 1)) ∧ w.cell? ⟨b, I * 4 + 2, none⟩ = some (.complex .f64 (X I 2) (Y I 2)) ∧ w.cell? ⟨b, I * 4 + 3, none⟩ = some (.complex .f64 (X I 3) (Y I 3)) := by
  have x0 := r.at (I * 4 + 0) (by omega)
  have x1 := r.at (I * 4 + 1) (by omega)
  have x2 := r.at (I * 4 + 2) (by omega)
  have x3 := r.at (I * 4 + 3) (by omega)
  rw [pg_at _ _ _ _ (by decide)] at x0 x1 x2 x3
  exact ⟨x0, x1, x2, x3⟩
theorem oi_add {w : World} {b n : Nat} {a : Nat → Int} (r : Row w b n (oi a)) (p : Nat) (hp : p < n) (c : Int) : Row (w.setCell ⟨b, p, none⟩ (.int .i64 (a p + c))) b n (oi (addAt a p c)) :=
  (r.set p hp _).congr fun i hi => by
    unfold upd oi addAt
    by_cases h : i = p
    · subst h; rw [if_pos rfl, if_pos rfl]
    · rw [if_neg h, if_neg h]
theorem cx_upd (U V : Nat → Nat) (K u v : Nat) (i : Nat) : upd (cx U V) K (.complex .f64 u v) i = cx (fun i => if i = K then u else U i) (fun i => if i = K then v else V i) i := by
  unfold upd cx
  by_cases hik : i = K
  · simp only [if_pos hik]
  · simp only [if_neg hik]
theorem reps_upd {U V : Nat → Nat} {p q : Nat → Int} {K u v : Nat} (h : Reps U V p q K) (hu : Fl.Rep u (p K)) (hv : Fl.Rep v (q K)) : Reps (fun i => if i = K then u else U i) (fun i => if i = K then v else V i) p q (K + 1) := fun i hi => by
  by_cases hik : i = K
  · subst hik
    simp only [if_pos rfl]
    exact ⟨hu, hv⟩
  · simp only [if_neg hik]
    exact h i (by omega)
theorem acc_bound {f g : Nat → Int} (hf : ∀ u, 0 ≤ f u ∧ f u ≤ 65535) (hg : ∀ u, 0 ≤ g u ∧ g u ≤ 65535) {M : Nat} (hM : M ≤ 128) {I J K : Nat} (hI : I ≤ 128) (hJ : J ≤ 128) (hK : K ≤ 3) (t : Nat) :
    0 ≤ accK f g (accJ f g (accI f g M I) I J) I J K t ∧ accK f g (accJ f g (accI f g M I) I J) I J K t ≤ 1125899906842624 := by
  have h1 := accI_bound f g hf hg M hM t I
  have h2 := accJ_bound f g (accI f g M I) hf hg I t _ h1 J
  have h3 := accK_bound f g (accJ f g (accI f g M I) I J) hf hg I J t _ h2 K
  omega

attribute [local go_sem] run_store_complex
set_option maxRecDepth 100000 in
set_option maxHeartbeats 6400000 in
theorem fold_yes (ad bd : Option Addr) (n c m d : Nat) (f g : Nat → Int) (w : World) (hS : Sl .i64 w ad n f) (hT : Sl .i64 w bd m g) (hn : n ≤ 256) (hm : m ≤ 256) (hn0 : 1 ≤ n) (hm0 : 1 ≤ m) (hf : Dig n f) (hg : Dig m g) :
    Calls Tryd.prog 24 #[.slice ad n c, .slice bd m d] w (RetI (wI (fz f n) (fz g m) m n) (n + m - 1) w) := by
  obtain ⟨i0, hi, hz0, hz1, hz2⟩ := info_parts info_int
  have D1 := Lib.hid (digits_yes ad n c f w hS hn hf)
  have D2 := Lib.hid (digits_yes bd m d g w hT hm hg)
  have P1 := Lib.hid (fun w hS => pairs_any ad n c f w hS hn hf)
  have P2 := Lib.hid (fun w hT => pairs_any bd m d g w hT hm hg)
  have fb := Lib.hid (fz_bound hf)
  have gb := Lib.hid (fz_bound hg)
  have zf := Lib.hid (fun i j => z_fit hf hg i j)
  have pb1 := Lib.hid (fun i k hk => p_bound hf i k hk)
  have pb2 := Lib.hid (fun i k hk => p_bound hg i k hk)
  replace hS := Lib.hid hS
  replace hT := Lib.hid hT
  clear hf hg
  have q1 : ((n : Int) == 0) = false := beq_f (by omega)
  have q2 : ((m : Int) == 0) = false := beq_f (by omega)
  go_enter Tryd.func24, Tryd.ntmps24
  go_wp2_with fail
  with_reducible refine (D1.out).mono ?_
  rintro e w' ⟨rfl, rfl⟩
  go_wp2_with fail
  with_reducible refine (D2.out).mono ?_
  rintro e w' ⟨rfl, rfl⟩
  go_wp2_with (at_make; refine wpList_make_full _ rfl _ _ 43 rfl w.heap.size 3 i0 (.int .i64 0) 1 Tryd.underlying43 hi hz0 hz1 .i64 .i64 ((n : Int) + m + 2) ((n : Int) + m + 2) (n + m + 2) rfl rfl (by omega) (by omega) (by rw [hz2]; omega) (by unfold maxLen; omega) (Nat.le_refl _) ?_; intro w1 hown1 hgrow1)
  have ro := owns_row_at hown1 (by omega) (oi (fun _ => 0)) (fun t ht => by
    simp only [Nat.mul_one] at ht ⊢
    exact made_get rfl ht)
  rw [Nat.mul_one] at ro
  have hw1 : Below w.heap.size w w1 := Below.grown (Below.refl _ _) hgrow1 (Nat.le_refl _) (fun k hk => by cases hk)
  have hz1' := hw1.size
  have hS1 := hS.out.beyond hw1
  have hT1 := hT.out.beyond hw1
  clear hown1 hgrow1
  replace ro := Lib.hid ro
  replace hT1 := Lib.hid hT1
  with_reducible refine (P1.out _ hS1).mono ?_
  rintro e w2 ⟨vp, X, Y, rfl, ho2, hR2, hb2⟩
  obtain ⟨gp, cp, rfl, hgp, hcp, rp⟩ := owns_row ho2 (by omega) (pg X Y) (fun t ht => pcells_pg X Y _ t ht)
  have ro2 := ro.out.beyond hb2
  have lr1 := ro.out.lt
  have hz12 := hb2.size
  have hT2 := hT1.out.beyond hb2
  have hw2 := hw1.trans (hb2.mono hz1')
  have hz2' := hw2.size
  clear hb2 ho2 hS1
  replace hR2 := Lib.hid hR2
  replace ro2 := Lib.hid ro2
  replace rp := Lib.hid rp
  go_wp2_with fail
  with_reducible refine (P2.out _ hT2).mono ?_
  rintro e w3 ⟨vq, X', Y', rfl, ho3, hR3, hb3⟩
  obtain ⟨gq, cq, rfl, hgq, hcq, rq⟩ := owns_row ho3 (by omega) (pg X' Y') (fun t ht => pcells_pg X' Y' _ t ht)
  have ro3 := ro2.out.beyond hb3
  have rp3 := rp.out.beyond hb3
  have hw3 := hw2.trans (hb3.mono hz2')
  have hz3' := hw3.size
  clear hb3 ho3 hT2
  have lpo := Lib.hid (show w.heap.size < gp by omega)
  have lqo := Lib.hid (show w.heap.size < gq by omega)
  replace hR3 := Lib.hid hR3
  replace ro3 := Lib.hid ro3
  replace rp3 := Lib.hid rp3
  replace rq := Lib.hid rq
  clear ro2 rp ro
  obtain ⟨N, hN⟩ : ∃ N, (n + 1) / 2 = N := ⟨_, rfl⟩
  obtain ⟨M, hM⟩ : ∃ M, (m + 1) / 2 = M := ⟨_, rfl⟩
  rw [hN] at rp3 hR2 hcp
  rw [hM] at rq hR3 hcq
  have hNb : 1 ≤ N ∧ 2 * N ≤ n + 1 := by omega
  have hMb : 1 ≤ M ∧ 2 * M ≤ m + 1 := by omega
  rw [hN, hM]
  replace hN := Lib.hid hN
  replace hM := Lib.hid hM
  go_wp2_with fail
  go_loopw [50] (fun k wr => ∃ I : Nat, I ≤ N ∧ k = .int .i64 I ∧ Row wr w.heap.size (n + m + 2) (oi (accI (fz f n) (fz g m) M I)) ∧ Row wr gp (N * 4) (pg X Y) ∧ Row wr gq (M * 4) (pg X' Y') ∧ Below w.heap.size w wr) (fun k _ => N - (intOf k).toNat)
  case atStart => exact ⟨0, by omega, rfl, ro3.out, rp3.out, rq.out, hw3⟩
  case round =>
    obtain ⟨I, hI, rfl, r1, r2, r3, hbw⟩ := hrel
    obtain ⟨wo, rfl⟩ : ∃ wo : World, wo = wr := ⟨_, rfl⟩
    have hzo := hbw.size
    have lp := r2.lt
    have loo := Lib.hid (show w.heap.size < wo.heap.size from r1.lt)
    by_cases hIN : I < N
    · have hd1 : decide ((I : Int) < (N : Int)) = true := by simp; omega
      obtain ⟨x0, x1, x2, x3⟩ := pg_cells r2 I hIN
      replace r1 := Lib.hid r1
      replace r2 := Lib.hid r2
      replace r3 := Lib.hid r3
      go_wp2_with fail
      go_loopw [57] (fun k wr => ∃ J : Nat, J ≤ M ∧ k = .int .i64 J ∧ Row wr w.heap.size (n + m + 2) (oi (accJ (fz f n) (fz g m) (accI (fz f n) (fz g m) M I) I J)) ∧ Row wr gp (N * 4) (pg X Y) ∧ Row wr gq (M * 4) (pg X' Y') ∧ Row wr wo.heap.size 4 (cx (X I) (Y I)) ∧ Below w.heap.size w wr) (fun k _ => M - (intOf k).toNat)
      case atStart => exact ⟨0, by omega, rfl, r1.out.alloc _, r2.out.alloc _, r3.out.alloc _, row_new wo _ _ (cx (X I) (Y I)) 4 (fun i hi => list_four (f := cx (X I) (Y I)) i hi), hbw.alloc hzo _⟩
      case round =>
        obtain ⟨J, hJ, rfl, s1, s2, s3, s4, hbj⟩ := hrel
        obtain ⟨wj, rfl⟩ : ∃ wj : World, wj = wr := ⟨_, rfl⟩
        have hzj := hbj.size
        clear x0 x1 x2 x3 r1 r2 r3
        by_cases hJM : J < M
        · have hd2 : decide ((J : Int) < (M : Int)) = true := by simp; omega
          have l2 := s3.lt
          obtain ⟨y0, y1, y2, y3⟩ := pg_cells s3 J hJM
          have ll := s4.lt
          replace s1 := Lib.hid s1
          replace s2 := Lib.hid s2
          replace s3 := Lib.hid s3
          replace s4 := Lib.hid s4
          go_wp2_with fail
          go_loopw [62] (fun k wr => ∃ K : Nat, K ≤ 4 ∧ k = .int .i64 K ∧ Row wr w.heap.size (n + m + 2) (oi (accJ (fz f n) (fz g m) (accI (fz f n) (fz g m) M I) I J)) ∧ Row wr gp (N * 4) (pg X Y) ∧ Row wr gq (M * 4) (pg X' Y') ∧ Row wr wo.heap.size 4 (cx (X I) (Y I)) ∧ Row wr wj.heap.size 4 (cx (X' J) (Y' J)) ∧ Below w.heap.size w wr ∧
              ∃ U V : Nat → Nat, Row wr (wj.heap.size + 1) 4 (cx U V) ∧ Hid (Reps U V (zRe f g n m I J) (zIm f g n m I J) K)) (fun k _ => (4 - intOf k).toNat)
          case atStart =>
            refine ⟨0, by omega, rfl, (s1.out.alloc _).alloc _, (s2.out.alloc _).alloc _, (s3.out.alloc _).alloc _, (s4.out.alloc _).alloc _, (row_new wj _ _ (cx (X' J) (Y' J)) 4 (fun i hi => list_four (f := cx (X' J) (Y' J)) i hi)).alloc _, by repeat' (first | (with_reducible assumption) | (with_reducible exact Below.refl _ _) | (with_reducible refine below_drewN ?_ _) | (with_reducible refine Below.drew ?_) | (with_reducible refine Below.setCell ?_ ?_ _) | (with_reducible refine Below.alloc ?_ ?_ _) | omega | (simp; done) | (simp; omega)), fun _ => 0, fun _ => 0, ?_, Lib.hid (fun i hi => by omega)⟩
            have h := row_new (wj.alloc (.cells #[cx (X' J) (Y' J) 0, cx (X' J) (Y' J) 1, cx (X' J) (Y' J) 2, cx (X' J) (Y' J) 3] 58)) #[.complex .f64 0 0, .complex .f64 0 0, .complex .f64 0 0, .complex .f64 0 0] 58 (cx (fun _ => 0) (fun _ => 0)) 4 (fun i hi => list_four (f := cx (fun _ => 0) (fun _ => 0)) i hi)
            simp at h
            exact h
          case round =>
            obtain ⟨K, hK, rfl, t1, t2, t3, t4, t5, hbk, U, V, t6, hUV⟩ := hrel
            obtain ⟨wk, rfl⟩ : ∃ wk : World, wk = wr := ⟨_, rfl⟩
            have hzk := hbk.size
            have l6 := t6.lt
            clear y0 y1 y2 y3 s1 s2 s3 s4
            by_cases hK4 : K < 4
            · have hd3 : decide ((K : Int) < 4) = true := by simp; omega
              have hK0 : (0 : Int) ≤ (K : Int) := by omega
              have hK1 : (K : Int) < 4 := by omega
              have ex := t4.at K hK4
              have ey := t5.at K hK4
              unfold cx at ex ey
              have hRx := hR2.out I hIN K hK4
              have hRy := hR3.out J hJM K hK4
              obtain ⟨a0, a1, a2, a3⟩ := pb1.out I K hK4
              obtain ⟨c0, c1, c2, c3⟩ := pb2.out J K hK4
              have T : Hid (∀ w, Calls Tryd.prog 32 #[.complex .f64 (X I K) (Y I K), .complex .f64 (X' J K) (Y' J K)] w (RetC (zRe f g n m I J K) (zIm f g n m I J K) w)) := Lib.hid (fun w => times_yes hRx.1 hRx.2 hRy.1 hRy.2 (by omega) (by omega) (by omega) (by omega) (by omega) (by omega) (by omega) (by omega) w)
              have n1 : wj.heap.size + 1 ≠ w.heap.size := by omega
              have n2 : wj.heap.size + 1 ≠ gp := by have := t2.lt; have := lp; omega
              have n3 : wj.heap.size + 1 ≠ gq := by omega
              have n4 : wj.heap.size + 1 ≠ wo.heap.size := by omega
              have n5 : wj.heap.size + 1 ≠ wj.heap.size := by omega
              clear hRx hRy a0 a1 a2 a3 c0 c1 c2 c3
              replace n1 := Lib.hid n1
              replace n2 := Lib.hid n2
              replace n3 := Lib.hid n3
              replace n4 := Lib.hid n4
              replace n5 := Lib.hid n5
              replace t1 := Lib.hid t1
              replace t2 := Lib.hid t2
              replace t3 := Lib.hid t3
              replace t4 := Lib.hid t4
              replace t5 := Lib.hid t5
              replace t6 := Lib.hid t6
              go_wp2_with fail
              go_region_with (first | (go_at_call 32; (with_reducible refine (T.out _).mono ?_); rintro e w5 ⟨u, v, rfl, hu, hv, hb5⟩; have v1 := t1.out.drew.beyond hb5; have v2 := t2.out.drew.beyond hb5; have v3 := t3.out.drew.beyond hb5; have v4 := t4.out.drew.beyond hb5; have v5 := t5.out.drew.beyond hb5; have v6 := t6.out.drew.beyond hb5; have tc := v6.at K hK4; unfold cx at tc; have tf := v6.free K hK4; have tl := v6.lt; have tw : Below w.heap.size w w5 := Below.trans (by repeat' (first | (with_reducible assumption) | (with_reducible exact Below.refl _ _) | (with_reducible refine below_drewN ?_ _) | (with_reducible refine Below.drew ?_) | (with_reducible refine Below.setCell ?_ ?_ _) | (with_reducible refine Below.alloc ?_ ?_ _) | omega | (simp; done) | (simp; omega))) (hb5.mono (by simp; omega)); replace hu := Lib.hid hu; replace hv := Lib.hid hv; replace v1 := Lib.hid v1; replace v2 := Lib.hid v2; replace v3 := Lib.hid v3; replace v4 := Lib.hid v4; replace v5 := Lib.hid v5; replace v6 := Lib.hid v6; clear hb5))
              all_goals
                go_wp2_with fail
                go_roundw
                case measure => simp [intOf]; omega
                case rel =>
                  exact ⟨K + 1, by omega, by go_num, v1.out.setOther _ n1.out _, v2.out.setOther _ n2.out _, v3.out.setOther _ n3.out _, v4.out.setOther _ n4.out _, v5.out.setOther _ n5.out _, tw.setCell (by show w.heap.size ≤ wj.heap.size + 1; omega) _, _, _, (v6.out.set K hK4 (.complex .f64 u v)).congr (fun i _ => cx_upd U V K u v i), Lib.hid (reps_upd hUV.out hu.out hv.out)⟩
            · have hKe : K = 4 := by omega
              rw [hKe] at hUV
              obtain ⟨b0, b1, b2, b3⟩ := cells_at t6
              have hok : (true = true) ↔ divTo (fun k => 4 * cf f g n m I J k) (fun _ => 0) 4 := ⟨fun _ i _ => ⟨(tm4 _).1, rfl⟩, fun _ => rfl⟩
              have BK := fun w => back_fit U V (zRe f g n m I J) (zIm f g n m I J) (fun k => 4 * cf f g n m I J k) (fun _ => 0) hUV.out (zf.out I J) (fun k hk => z_back f g n m I J k hk) true hok w
              unfold c4 at BK
              replace BK := Lib.hid BK
              replace hKe := Lib.hid hKe
              replace t1 := Lib.hid t1
              replace t2 := Lib.hid t2
              replace t3 := Lib.hid t3
              replace t4 := Lib.hid t4
              clear hok t5 t6 hUV
              go_wp2_with fail
              with_reducible refine (BK.out _).mono ?_
              rintro e w5 ⟨C, D, rfl, hCD, hb5⟩
              have v1 := t1.out.beyond hb5
              have v2 := t2.out.beyond hb5
              have v3 := t3.out.beyond hb5
              have v4 := t4.out.beyond hb5
              have hw5 := hbk.trans (hb5.mono hzk)
              have hz5 := hw5.size
              have hCD' : ∀ i, i < 4 → Fl.Rep (C i) (cf f g n m I J i) ∧ Fl.Rep (D i) 0 := fun i hi => by
                have h := hCD i hi
                have e1 : dq true (fun k => 4 * cf f g n m I J k) i = cf f g n m I J i := (tm4 _).2
                have e2 : dq true (fun _ => 0) i = 0 := rfl
                rw [e1, e2] at h
                exact h
              have lo := v1.lt
              clear hb5 b0 b1 b2 b3 hCD
              replace v1 := Lib.hid v1
              replace v2 := Lib.hid v2
              replace v3 := Lib.hid v3
              replace v4 := Lib.hid v4
              replace hCD' := Lib.hid hCD'
              unfold c4
              go_wp2_with fail
              go_loopw [80] (fun k wr => ∃ K : Nat, K ≤ 3 ∧ k = .int .i64 K ∧ Row wr w.heap.size (n + m + 2) (oi (accK (fz f n) (fz g m) (accJ (fz f n) (fz g m) (accI (fz f n) (fz g m) M I) I J) I J K)) ∧ Row wr gp (N * 4) (pg X Y) ∧ Row wr gq (M * 4) (pg X' Y') ∧ Row wr wo.heap.size 4 (cx (X I) (Y I)) ∧ Row wr w5.heap.size 4 (cx C D) ∧ Below w.heap.size w wr) (fun k _ => (3 - intOf k).toNat)
              case atStart => exact ⟨0, by omega, rfl, v1.out.alloc _, v2.out.alloc _, v3.out.alloc _, v4.out.alloc _, row_new w5 _ _ (cx C D) 4 (fun i hi => list_four (f := cx C D) i hi), hw5.alloc hz5 _⟩
              case round =>
                obtain ⟨L, hL, rfl, t1, t2, t3, t4, t5, hbl⟩ := hrel
                obtain ⟨wl, rfl⟩ : ∃ wl : World, wl = wr := ⟨_, rfl⟩
                have hzl := hbl.size
                by_cases hL3 : L < 3
                · have hd4 : decide ((L : Int) < 3) = true := by simp; omega
                  have hK0 : (0 : Int) ≤ (L : Int) := by omega
                  have hK1 : (L : Int) < 4 := by omega
                  have ec := t5.at L (by omega)
                  unfold cx at ec
                  obtain ⟨hrc, hrd⟩ := hCD'.out L (by omega)
                  have ecc : cf f g n m I J L = cc (fz f n) (fz g m) I J L := by unfold cf; rw [if_neg (by omega)]
                  rw [ecc] at hrc
                  have hcb := cc_bound _ _ fb.out gb.out I J L
                  have PT := Lib.hid (fun w => parts_yes hrc hrd (by omega) (by omega) (by decide) (by decide) w)
                  have hidx : 2 * I + 2 * J + L < n + m + 2 := by omega
                  have hab := acc_bound fb.out gb.out (M := M) (I := I) (J := J) (K := L) (by omega) (by omega) (by omega) (by omega) (2 * I + 2 * J + L)
                  have st := Lib.hid (fun (W : World) (r : Row W w.heap.size (n + m + 2) (oi (accK (fz f n) (fz g m) (accJ (fz f n) (fz g m) (accI (fz f n) (fz g m) M I) I J) I J L))) => oi_add r (2 * I + 2 * J + L) hidx (cc (fz f n) (fz g m) I J L))
                  have n2 : w.heap.size ≠ gp := by have := lpo.out; omega
                  have n3 : w.heap.size ≠ gq := by have := lqo.out; omega
                  have n4 : w.heap.size ≠ wo.heap.size := by have := loo.out; omega
                  have n5 : w.heap.size ≠ w5.heap.size := by omega
                  generalize hav : accK (fz f n) (fz g m) (accJ (fz f n) (fz g m) (accI (fz f n) (fz g m) M I) I J) I J L (2 * I + 2 * J + L) = av at hab
                  generalize hcv : cc (fz f n) (fz g m) I J L = cv at *
                  replace hav := Lib.hid hav
                  replace hcv := Lib.hid hcv
                  replace n2 := Lib.hid n2
                  replace n3 := Lib.hid n3
                  replace n4 := Lib.hid n4
                  replace n5 := Lib.hid n5
                  replace t1 := Lib.hid t1
                  replace t2 := Lib.hid t2
                  replace t3 := Lib.hid t3
                  replace t4 := Lib.hid t4
                  replace t5 := Lib.hid t5
                  clear hrc hrd ecc
                  go_wp2_with fail
                  with_reducible refine (PT.out _).mono ?_
                  rintro e w6 ⟨rfl, hb6⟩
                  have v1' := t1.out.beyond hb6
                  have v2' := t2.out.beyond hb6
                  have v3' := t3.out.beyond hb6
                  have v4' := t4.out.beyond hb6
                  have v5' := t5.out.beyond hb6
                  have hw6 := hbl.trans (hb6.mono hzl)
                  have eo := v1'.at (2 * I + 2 * J + L) hidx
                  unfold oi at eo
                  rw [hav.out] at eo
                  have fo := v1'.free (2 * I + 2 * J + L) hidx
                  have lo' := v1'.lt
                  clear hb6
                  replace v1' := Lib.hid v1'
                  replace v2' := Lib.hid v2'
                  replace v3' := Lib.hid v3'
                  replace v4' := Lib.hid v4'
                  replace v5' := Lib.hid v5'
                  go_wp2_with fail
                  go_roundw
                  case measure => simp [intOf]; omega
                  case rel =>
                    have q1 := st.out _ v1'.out
                    rw [hav.out] at q1
                    refine ⟨L + 1, by omega, by go_num, ?_, v2'.out.setOther _ n2.out _, v3'.out.setOther _ n3.out _, v4'.out.setOther _ n4.out _, v5'.out.setOther _ n5.out _, hw6.setCell (Nat.le_refl _) _⟩
                    rw [accK, hcv.out]
                    exact q1
                · have hLe : L = 3 := by omega
                  rw [hLe] at t1
                  replace hLe := Lib.hid hLe
                  replace t1 := Lib.hid t1
                  replace t2 := Lib.hid t2
                  replace t3 := Lib.hid t3
                  replace t4 := Lib.hid t4
                  clear t5
                  go_wp2_with fail
                  go_roundw
                  case measure => simp [intOf]; omega
                  case rel => exact ⟨J + 1, by omega, by go_num, t1.out, t2.out, t3.out, t4.out, hbl⟩
        · have hJe : J = M := by omega
          rw [hJe] at s1
          replace hJe := Lib.hid hJe
          replace s1 := Lib.hid s1
          replace s2 := Lib.hid s2
          replace s3 := Lib.hid s3
          clear s4
          go_wp2_with fail
          go_roundw
          case measure => simp [intOf]; omega
          case rel => exact ⟨I + 1, by omega, by go_num, s1.out, s2.out, s3.out, hbj⟩
    · have hIe : I = N := by omega
      rw [hIe] at r1
      have hfin : ∀ t, accI (fz f n) (fz g m) M N t = wI (fz f n) (fz g m) m n t := fun t => by
        rw [← hN.out, ← hM.out]
        exact accI_conv _ _ t n m (fun u hu => fz_end f n u hu) (fun u hu => fz_end g m u hu)
      have r1' : Row wo w.heap.size (n + m + 2) (oi (wI (fz f n) (fz g m) m n)) := r1.congr (fun t _ => by unfold oi; rw [hfin t])
      obtain ⟨i1, i2, i3, i4, i5⟩ : ∃ L, L = n + m - 1 ∧ L ≤ n + m + 2 ∧ (L : Int) = (n : Int) + m - 1 ∧ 1 ≤ L := ⟨n + m - 1, rfl, by omega, by omega, by omega⟩
      replace hIe := Lib.hid hIe
      clear r1 r2 r3 hfin
      replace r1' := Lib.hid r1'
      go_wp2_with (at_builtin; refine wpList_append_own _ rfl _ _ 43 rfl w.heap.size 3 i0 (.int .i64 0) 1 8 Tryd.underlying43 hi hz0 hz1 hz2 rfl (by decide) (.slice none 0 0) 0 [] rfl (World.ownsRow_nil _ _ _ _) ⟨w.heap.size, 0, none⟩ (n + m - 1) (n + m + 2) ((List.range (n + m - 1)).map fun t => Value.int .i64 (wI (fz f n) (fz g m) m n t)) rfl (by simp) ?c1 ?c2 ?c3 ?c4 ?c5 ?_)
      case c1 =>
        intro j u hj
        rw [List.getElem?_map] at hj
        obtain ⟨t, ht, hu⟩ := Option.map_eq_some_iff.1 hj
        obtain ⟨hjl, he⟩ := List.getElem?_eq_some_iff.1 ht
        simp at hjl he
        subst he
        subst hu
        have h := r1'.out.at j (by omega)
        have hadd : (⟨w.heap.size, 0, none⟩ : Addr).add j = ⟨w.heap.size, j, none⟩ := by unfold Addr.add; split <;> simp_all
        rw [hadd]
        exact h
      case c2 =>
        intro u hu
        obtain ⟨t, _, rfl⟩ := List.mem_map.1 hu
        rfl
      case c3 => unfold maxLen; omega
      case c4 => omega
      case c5 => first | exact hzo | (simp; omega)
      intro v' w6 hown hgrow _
      have hw6 : Below w.heap.size w w6 := Below.grown (by repeat' (first | (with_reducible assumption) | (with_reducible exact Below.refl _ _) | (with_reducible refine below_drewN ?_ _) | (with_reducible refine Below.drew ?_) | (with_reducible refine Below.setCell ?_ ?_ _) | (with_reducible refine Below.alloc ?_ ?_ _) | omega | (simp; done) | (simp; omega))) hgrow (by first | exact hzo | (simp; omega)) (fun k hk => by cases hk)
      try rw [Nat.zero_add] at hown
      try rw [List.nil_append] at hown
      clear hgrow
      replace hown := Lib.hid hown
      go_wp2_with fail
      refine bodyPost_ret (results_tmp2 rfl _ _ _) rfl ?_
      exact ⟨v', rfl, hown.out, hw6⟩
end Go.Proofs.YtogmmhacjndebaaDoor
