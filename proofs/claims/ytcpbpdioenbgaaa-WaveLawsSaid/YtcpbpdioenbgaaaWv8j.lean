/- Law 8: WaveLaws. No condition. -/
import Derived.Test.YtcpbpdioenbgaaaWv8i
import Derived.Deep.RegionLaw
import Derived.Deep.AppendLies
namespace Go.Proofs.Ytcpbpdioenbgaaa
open Go.RowKit
set_option linter.unusedSimpArgs false
set_option linter.unusedVariables false
attribute [local irreducible] Fl.K
def fs (g h : Nat → Int) (t : Nat) : Int := fw g t + fw h t
theorem fs_dig (g h : Nat → Int) (n : Nat) : Dig n (fs g h) := fun i _ => by
  have h1 := fw_range g i
  have h2 := fw_range h i
  unfold fs
  omega
theorem laws_sum (f g h : Nat → Int) (n m t : Nat) : wI (fz (fw f) n) (fz (fw g) m) m n t + wI (fz (fw f) n) (fz (fw h) m) m n t = wI (fz (fw f) n) (fz (fs g h) m) m n t := by
  rw [wI_add]
  refine wI_congr (fun _ _ => rfl) (fun v hv => ?_) t
  unfold fz
  rw [if_pos hv, if_pos hv, if_pos hv]
  rfl
theorem laws_swap (f g : Nat → Int) (n m : Nat) : wI (fz (fw g) m) (fz (fw f) n) n m = wI (fz (fw f) n) (fz (fw g) m) m n := funext fun t => (wI_swap _ _ n m t).symm
theorem laws_bound (f : Nat → Int) (g : Nat → Int) (n m t : Nat) (hn : n ≤ 100) (hm : m ≤ 100) (hg : Dig m g) : 0 ≤ wI (fz (fw f) n) (fz g m) m n t ∧ wI (fz (fw f) n) (fz g m) m n t ≤ 109947807360000 := by
  have := wI_bound _ _ (fz_bound (fw_dig f n)) (fz_bound hg) m (by omega) t n
  omega
set_option maxRecDepth 100000 in
set_option maxHeartbeats 12800000 in
theorem waveLaws_main (ad : Option Addr) (n c : Nat) (f : Nat → Int) (bd : Option Addr) (m d : Nat) (g : Nat → Int) (zd : Option Addr) (cz : Nat) (h : Nat → Int) (w : World) (hS : Sl .i64 w ad n f) (hT : Sl .i64 w bd m g) (hU : Sl .i64 w zd m h) (hn0 : 1 ≤ n) (hn : n ≤ 100) (hm0 : 1 ≤ m) (hm : m ≤ 100) :
    Calls Try.prog 3 #[.slice ad n c, .slice bd m d, .slice zd m cz] w fun e w' => e = .returned (.bool true) ∧ Below w.heap.size w w' := by
  obtain ⟨i0, hi, iz0, iz1, iz2⟩ := info_parts info_int
  have AW := Lib.hid awake8_true
  have P1 := Lib.hid (fun w hS => few_any ad n c f w hS (by omega))
  have P2 := Lib.hid (fun w hT => few_any bd m d g w hT (by omega))
  have P3 := Lib.hid (fun w hT => few_any zd m cz h w hT (by omega))
  have F1 := Lib.hid (fun a b ca cb w r1 r2 => fold_ret a b n ca m cb (fw f) (fw g) w r1 r2 (by omega) (by omega) hn0 hm0 (fw_dig f n) (fw_dig g m))
  have F2 := Lib.hid (fun a b ca cb w r1 r2 => fold_ret a b m ca n cb (fw g) (fw f) w r1 r2 (by omega) (by omega) hm0 hn0 (fw_dig g m) (fw_dig f n))
  have F3 := Lib.hid (fun a b ca cb w r1 r2 => fold_ret a b n ca m cb (fw f) (fw h) w r1 r2 (by omega) (by omega) hn0 hm0 (fw_dig f n) (fw_dig h m))
  have F4 := Lib.hid (fun a b ca cb w r1 r2 => fold_ret a b n ca m cb (fw f) (fs g h) w r1 r2 (by omega) (by omega) hn0 hm0 (fw_dig f n) (fs_dig g h m))
  rw [laws_swap f g n m, show m + n - 1 = n + m - 1 from by omega] at F2
  have HS := Lib.hid (fun t => laws_sum f g h n m t)
  have B1 := Lib.hid (fun t => laws_bound f (fw g) n m t hn hm (fw_dig g m))
  have B2 := Lib.hid (fun t => laws_bound f (fw h) n m t hn hm (fw_dig h m))
  generalize wI (fz (fw f) n) (fz (fw g) m) m n = A1 at *
  generalize wI (fz (fw f) n) (fz (fw h) m) m n = A2 at *
  generalize wI (fz (fw f) n) (fz (fs g h) m) m n = A3 at *
  obtain ⟨L, hL⟩ : ∃ L, n + m - 1 = L := ⟨_, rfl⟩
  rw [hL] at F1 F2 F3 F4
  have hLb : 1 ≤ L ∧ L ≤ 199 := by omega
  have SI := Lib.hid (fun g1 g2 c1 c2 w r1 r2 => sameInts_yes (some ⟨g1, 0, none⟩) (some ⟨g2, 0, none⟩) L c1 c2 A1 w (by omega) (row_sl r1) (row_sl r2))
  replace hS := Lib.hid hS
  replace hT := Lib.hid hT
  replace hU := Lib.hid hU
  replace hL := Lib.hid hL
  go_enter Try.func3, Try.ntmps3
  go_wp2_with fail
  with_reducible refine (AW.out _).mono ?_
  rintro e w1 ⟨rfl, hw1⟩
  have hz1 := hw1.size
  have S1 := Lib.hid (hS.out.beyond hw1)
  go_wp2_with fail
  with_reducible refine (P1.out _ S1.out).mono ?_
  rintro e w2 ⟨xd, xc, rfl, rx, hb2⟩
  have hw2 := hw1.trans (hb2.mono hz1)
  have hz2 := hw2.size
  have T2 := Lib.hid (hT.out.beyond hw2)
  clear hb2
  replace rx := Lib.hid rx
  go_wp2_with fail
  with_reducible refine (P2.out _ T2.out).mono ?_
  rintro e w3 ⟨yd, yc, rfl, ry, hb3⟩
  replace rx := Lib.hid (rx.out.beyond hb3)
  have hw3 := hw2.trans (hb3.mono hz2)
  have hz3 := hw3.size
  have U3 := Lib.hid (hU.out.beyond hw3)
  clear hb3
  replace ry := Lib.hid ry
  go_wp2_with fail
  with_reducible refine (P3.out _ U3.out).mono ?_
  rintro e w4 ⟨zd', zc, rfl, rz, hb4⟩
  replace rx := Lib.hid (rx.out.beyond hb4)
  replace ry := Lib.hid (ry.out.beyond hb4)
  have hw4 := hw3.trans (hb4.mono hz3)
  have hz4 := hw4.size
  clear hb4 S1 T2 U3
  replace rz := Lib.hid rz
  go_wp2_with fail
  go_loopw [10, 11] (fun v i wr => ∃ K : Nat, K ≤ m ∧ i = .int .i64 K ∧ wr.ownsRow w4.heap.size 3 1 v K (il (fs g h) K) ∧ Below w4.heap.size w4 wr) (fun _ i _ => m - (intOf i).toNat)
  case atStart => exact ⟨0, by omega, rfl, World.ownsRow_nil _ _ _ _, Below.refl _ _⟩
  case round =>
    obtain ⟨K, hK, rfl, hown, hbw⟩ := hrel
    obtain ⟨wo, rfl⟩ : ∃ wo : World, wo = wr := ⟨_, rfl⟩
    have hzo := hbw.size
    by_cases hKm : K < m
    · obtain ⟨a, ha, hal, hac⟩ := ry.out.beyond hbw K hKm
      obtain ⟨b, hb', hbl, hbc⟩ := rz.out.beyond hbw K hKm
      subst ha hb'
      have r1 := fw_range g K
      have r2 := fw_range h K
      have hfs : fw g K + fw h K = fs g h K := rfl
      have il1 := Lib.hid (il_succ (fs g h) K)
      have hblk := Lib.hid (fun k hk => (hown.lt k hk).1)
      have k0 : (0 : Int) ≤ (K : Int) := by omega
      have k1 : (K : Int) < (m : Int) := by omega
      generalize fw g K = x at *
      generalize fw h K = y at *
      generalize fs g h K = z at *
      obtain ⟨x0, x1⟩ := r1
      obtain ⟨y0, y1⟩ := r2
      have hwx : IntKind.i64.wrap (x + y) = x + y := by rw [IntKind.wrap_i64]; omega
      replace hown := Lib.hid hown
      go_wp2_with fail
      go_region_law (refine step_append_lies _ rfl (.tmp 60) (.tmp 70) 22 rfl w4.heap.size 3 i0 _ 1 8 Try.underlying22 hi iz0 iz1 iz2 rfl (by decide) u10 K (il (fs g h) K) (by simp [Act.eval, Act.put]) (hown.out.alloc _) ⟨wo.heap.size, 0, none⟩ 1 1 [.int .i64 z] (by simp [Act.eval, Act.put]) rfl ?c1 ?c2 (by decide) ?c3 ?c4 ?c5 _ rfl ?_; (case c1 => (intro j u hj; (match j, hj with | 0, hj => (simp at hj; subst hj; simp [Addr.add, ← hfs, hwx]) | j + 1, hj => simp at hj))); (case c2 => (intro u hu; simp at hu; subst hu; rfl)); (case c3 => (unfold maxLen; omega)); (case c4 => omega); (case c5 => (simp; omega)); intro g6 cap6 w6 hown6 hgrow6 hat6 hlt6)
      all_goals
        have hw6 : Below w4.heap.size w4 w6 := Below.grown (by repeat' (first | (with_reducible assumption) | (with_reducible exact Below.refl _ _) | (with_reducible refine below_drewN ?_ _) | (with_reducible refine Below.drew ?_) | (with_reducible refine Below.setCell ?_ ?_ _) | (with_reducible refine Below.alloc ?_ ?_ _) | omega | (simp; done) | (simp; omega))) hgrow6 (by simp; omega) (fun k hk => hblk.out k hk)
        replace hown6 := Lib.hid (show w6.ownsRow w4.heap.size 3 1 (.slice (some ⟨g6, 0, none⟩) (K + 1) cap6) (K + 1) (il (fs g h) (K + 1)) by rw [il1.out]; exact hown6)
        clear hgrow6 hown hat6
        go_wp2_with fail
        go_roundw
        case measure => simp [intOf]; omega
        case rel =>
          refine ⟨K + 1, by omega, by go_num, ?_, ?_⟩
          · exact hown6.out
          · repeat' (first | (with_reducible exact hw6) | (with_reducible refine below_drewN ?_ _) | (with_reducible refine Below.drew ?_))
    · obtain rfl : K = m := by omega
      obtain ⟨sd, sc, hse, rs, hbs⟩ := retS_of hown hbw
      injection hse with hse
      subst hse
      replace rx := Lib.hid (rx.out.beyond hbw)
      replace ry := Lib.hid (ry.out.beyond hbw)
      replace rz := Lib.hid (rz.out.beyond hbw)
      have hw5 := hw4.trans (hbw.mono hz4)
      have hz5 := hw5.size
      have hkk : ¬ ((K : Int) < (K : Int)) := by omega
      clear hown hbw hbs
      replace rs := Lib.hid rs
      go_wp2_with fail
      with_reducible refine (F1.out _ _ _ _ _ rx.out ry.out).mono ?_
      rintro e w6 ⟨g6, c6, rfl, _, p6, hb6⟩
      replace rx := Lib.hid (rx.out.beyond hb6)
      replace ry := Lib.hid (ry.out.beyond hb6)
      replace rz := Lib.hid (rz.out.beyond hb6)
      replace rs := Lib.hid (rs.out.beyond hb6)
      have hw6 := hw5.trans (hb6.mono hz5)
      have hz6 := hw6.size
      clear hb6
      replace p6 := Lib.hid p6
      go_wp2_with fail

      with_reducible refine (F2.out _ _ _ _ _ ry.out rx.out).mono ?_
      rintro e w7 ⟨g7, c7, rfl, _, p7, hb7⟩
      replace rx := Lib.hid (rx.out.beyond hb7)
      replace ry := Lib.hid (ry.out.beyond hb7)
      replace rz := Lib.hid (rz.out.beyond hb7)
      replace rs := Lib.hid (rs.out.beyond hb7)
      replace p6 := Lib.hid (p6.out.beyond hb7)
      have hw7 := hw6.trans (hb7.mono hz6)
      have hz7 := hw7.size
      clear hb7
      replace p7 := Lib.hid p7
      go_wp2_with fail

      with_reducible refine (F3.out _ _ _ _ _ rx.out rz.out).mono ?_
      rintro e w8 ⟨g8, c8, rfl, _, p8, hb8⟩
      replace rx := Lib.hid (rx.out.beyond hb8)
      replace rs := Lib.hid (rs.out.beyond hb8)
      replace p6 := Lib.hid (p6.out.beyond hb8)
      replace p7 := Lib.hid (p7.out.beyond hb8)
      have hw8 := hw7.trans (hb8.mono hz7)
      have hz8 := hw8.size
      clear hb8
      replace p8 := Lib.hid p8
      go_wp2_with fail

      with_reducible refine (F4.out _ _ _ _ _ rx.out rs.out).mono ?_
      rintro e w9 ⟨g9, c9, rfl, _, p9, hb9⟩
      replace p6 := Lib.hid (p6.out.beyond hb9)
      replace p7 := Lib.hid (p7.out.beyond hb9)
      replace p8 := Lib.hid (p8.out.beyond hb9)
      have hw9 := hw8.trans (hb9.mono hz8)
      have hz9 := hw9.size
      clear hb9
      replace p9 := Lib.hid p9
      go_wp2_with fail
      with_reducible refine (SI.out _ _ _ _ _ p6.out p7.out).mono ?_
      rintro e w10 ⟨rfl, q, rfl⟩
      go_wp2_with fail
      go_loopw [20] (fun k wr => ∃ I : Nat, I ≤ L ∧ k = .int .i64 I ∧ ∃ q, wr = w9.drewN q) (fun k _ => L - (intOf k).toNat)
      case atStart => exact ⟨0, by omega, rfl, _, rfl⟩
      case round =>
        obtain ⟨I, hI, rfl, q, rfl⟩ := hrel
        by_cases hIL : I < L
        · have e1 := p6.out.at I hIL
          have e2 := p8.out.at I hIL
          have e3 := p9.out.at I hIL
          unfold oi at e1 e2 e3
          have l1 := p6.out.lt
          have l2 := p8.out.lt
          have l3 := p9.out.lt
          have hs := HS.out I
          obtain ⟨b1, b2⟩ := B1.out I
          obtain ⟨b3, b4⟩ := B2.out I
          generalize A1 I = v1 at *
          generalize A2 I = v2 at *
          generalize A3 I = v3 at *
          have k0 : (0 : Int) ≤ (I : Int) := by omega
          have k1 : (I : Int) < (L : Int) := by omega
          have hne : (v1 + v2 != v3) = false := bne_f hs
          go_wp2_with fail
          go_quiet (fail)
          go_wp2_with fail
          go_roundw
          case measure => simp [intOf]; omega
          case rel => exact ⟨I + 1, by omega, by go_num, _, rfl⟩
        · have hil : ¬ ((I : Int) < (L : Int)) := by omega
          go_wp2_with fail
          go_ret
          exact ⟨rfl, by repeat' (first | (with_reducible assumption) | (with_reducible exact Below.refl _ _) | (with_reducible refine below_drewN ?_ _) | (with_reducible refine Below.drew ?_) | (with_reducible refine Below.setCell ?_ ?_ _) | (with_reducible refine Below.alloc ?_ ?_ _) | omega | (simp; done) | (simp; omega))⟩
set_option maxRecDepth 100000 in
set_option maxHeartbeats 6400000 in
theorem waveLaws_walk (ad : Option Addr) (n c : Nat) (f : Nat → Int) (bd : Option Addr) (m d : Nat) (g : Nat → Int) (zd : Option Addr) (k cz : Nat) (h : Nat → Int) (w : World) (hS : Sl .i64 w ad n f) (_hn : n ≤ maxLen) (_hf : WfN n f) (hT : Sl .i64 w bd m g) (_hm : m ≤ maxLen) (_hg : WfN m g) (hU : Sl .i64 w zd k h) (_hk : k ≤ maxLen) (_hh : WfN k h) :
    Calls Try.prog 3 #[.slice ad n c, .slice bd m d, .slice zd k cz] w fun e w' => e = .returned (.bool true) ∧ Below w.heap.size w w' := by
  have AW := Lib.hid awake8_true
  by_cases h1 : 1 ≤ n
  · by_cases h2 : n ≤ 100
    · by_cases h3 : 1 ≤ m
      · by_cases h4 : m ≤ 100
        · by_cases h5 : k = m
          · subst h5
            exact waveLaws_main ad n c f bd k d g zd cz h w hS hT hU h1 h2 h3 h4
          · have h6 : ((k : Int) != (m : Int)) = true := bne_t (by omega)
            clear hS hT hU
            go_enter Try.func3, Try.ntmps3
            go_wp2_with fail
            with_reducible refine (AW.out _).mono ?_
            rintro e w1 ⟨rfl, hw1⟩
            go_wp2_with fail
            go_ret
            exact ⟨rfl, hw1⟩
        · clear hS hT hU
          go_enter Try.func3, Try.ntmps3
          go_wp2_with fail
          with_reducible refine (AW.out _).mono ?_
          rintro e w1 ⟨rfl, hw1⟩
          go_wp2_with fail
          go_ret
          exact ⟨rfl, hw1⟩
      · clear hS hT hU
        go_enter Try.func3, Try.ntmps3
        go_wp2_with fail
        with_reducible refine (AW.out _).mono ?_
        rintro e w1 ⟨rfl, hw1⟩
        go_wp2_with fail
        go_ret
        exact ⟨rfl, hw1⟩
    · clear hS hT hU
      go_enter Try.func3, Try.ntmps3
      go_wp2_with fail
      with_reducible refine (AW.out _).mono ?_
      rintro e w1 ⟨rfl, hw1⟩
      go_wp2_with fail
      go_ret
      exact ⟨rfl, hw1⟩
  · clear hS hT hU
    go_enter Try.func3, Try.ntmps3
    go_wp2_with fail
    with_reducible refine (AW.out _).mono ?_
    rintro e w1 ⟨rfl, hw1⟩
    go_wp2_with fail
    go_ret
    exact ⟨rfl, hw1⟩
end Go.Proofs.Ytcpbpdioenbgaaa
