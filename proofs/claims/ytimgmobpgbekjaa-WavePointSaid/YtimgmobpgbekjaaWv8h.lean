/- Law 8: WaveFold. No condition. -/
import Derived.Test.YtimgmobpgbekjaaWv8g
import Derived.Test.YtimgmobpgbekjaaBack
import Derived.BigRegion
namespace Go.Proofs.Ytimgmobpgbekjaa
open Go.RowKit
attribute [local irreducible] Fl.K
theorem wJ_bound (F G a : Nat → Int) (hF : ∀ u, 0 ≤ F u ∧ F u ≤ 65535) (hG : ∀ u, 0 ≤ G u ∧ G u ≤ 65535) (u t : Nat) (B : Int) (h : 0 ≤ a t ∧ a t ≤ B) : ∀ v : Nat, 0 ≤ wJ F G a u v t ∧ wJ F G a u v t ≤ B + v * 4294836225 := by
  intro v
  induction v with
  | zero => rw [wJ]; omega
  | succ v ih =>
    rw [wJ, addAt_eq]
    have h1 := hF u
    have h2 := hG v
    have h3 : 0 ≤ F u * G v := Int.mul_nonneg h1.1 h2.1
    have h4 : F u * G v ≤ 65535 * 65535 := Int.mul_le_mul h1.2 h2.2 h2.1 (by decide)
    split <;> omega
theorem wI_bound (F G : Nat → Int) (hF : ∀ u, 0 ≤ F u ∧ F u ≤ 65535) (hG : ∀ u, 0 ≤ G u ∧ G u ≤ 65535) (m : Nat) (hm : m ≤ 256) (t : Nat) : ∀ u : Nat, 0 ≤ wI F G m u t ∧ wI F G m u t ≤ u * 1099478073600 := by
  intro u
  induction u with
  | zero => simp [wI]
  | succ u ih =>
    rw [wI]
    have := wJ_bound F G (wI F G m u) hF hG u t _ ih m
    omega
theorem dig_step {f : Nat → Int} {K : Nat} (h : Dig K f) (h0 : 0 ≤ f K) (h1 : f K ≤ 65535) : Dig (K + 1) f := fun i hi => by
  by_cases hik : i < K
  · exact h i hik
  · obtain rfl : i = K := by omega
    exact ⟨h0, h1⟩
theorem dig_le {f : Nat → Int} {K n : Nat} (h : Dig n f) (hK : K ≤ n) : Dig K f := fun i hi => h i (by omega)
def WfN (n : Nat) (f : Nat → Int) : Prop := ∀ i, i < n → -9223372036854775808 ≤ f i ∧ f i ≤ 9223372036854775807

set_option maxRecDepth 100000 in
set_option maxHeartbeats 6400000 in
theorem waveFold_long (ad : Option Addr) (n c : Nat) (f : Nat → Int) (bd : Option Addr) (m d : Nat) (g : Nat → Int) (w : World) (hS : Sl .i64 w ad n f) (hT : Sl .i64 w bd m g) (hn : n ≤ 300) (hm : m ≤ 300) (hno : ¬ (n ≤ 256 ∧ m ≤ 256)) :
    Calls Try.prog 12 #[.slice ad n c, .slice bd m d] w fun e w' => e = .returned (.bool true) ∧ Below w.heap.size w w' := by
  have FB := Lib.hid (fun w hS hT => fold_bad ad bd n c m d f g w hS hT (by omega) (by omega) (fun h => hno ⟨h.1.1, h.2.1⟩))
  replace hS := Lib.hid hS
  replace hT := Lib.hid hT
  by_cases h1 : n ≤ 256
  · have h2 : ¬ m ≤ 256 := fun h => hno ⟨h1, h⟩
    clear hno
    have AW := Lib.hid awake8_true
    go_enter Try.func12, Try.ntmps12
    go_wp2_with fail
    with_reducible refine (AW.out _).mono ?_
    rintro e w1 ⟨rfl, hw1⟩
    have hz1 := hw1.size
    have S1 := Lib.hid (hS.out.beyond hw1)
    have T1 := Lib.hid (hT.out.beyond hw1)

    go_wp2_with fail
    go_loop [5, 6] (fun b k => ∃ K : Nat, K ≤ n ∧ k = .int .i64 K ∧ b = .bool false) (fun _ k => n - (intOf k).toNat)
    case atStart => exact ⟨0, by omega, rfl, by first | rfl | (simp; omega)⟩
    case round =>
      obtain ⟨K, hK, rfl, rfl⟩ := hrel
      by_cases hKn : K < n
      · go_wp2_with fail
        go_round
        case rel => exact ⟨K + 1, by omega, by go_num, rfl⟩
        case measure => simp [intOf]; omega
      · have hnk : ¬ ((K : Int) < (n : Int)) := by omega
        go_wp2_with fail
        go_loop [5, 7] (fun b k => ∃ K : Nat, K ≤ m ∧ k = .int .i64 K ∧ b = .bool false) (fun _ k => m - (intOf k).toNat)
        case atStart => exact ⟨0, by omega, rfl, rfl⟩
        case round =>
          obtain ⟨J, hJ, rfl, rfl⟩ := hrel
          by_cases hJm : J < m
          · go_wp2_with fail
            go_round
            case rel => exact ⟨J + 1, by omega, by go_num, rfl⟩
            case measure => simp [intOf]; omega
          · have hmj : ¬ ((J : Int) < (m : Int)) := by omega
            go_wp2_with fail
            with_reducible refine (FB.out _ S1.out T1.out).mono ?_
            rintro e w' ⟨rfl, rfl⟩
            go_wp2_with fail
            go_ret
            exact ⟨rfl, hw1⟩
  · clear hno
    have AW := Lib.hid awake8_true
    go_enter Try.func12, Try.ntmps12
    go_wp2_with fail
    with_reducible refine (AW.out _).mono ?_
    rintro e w1 ⟨rfl, hw1⟩
    have hz1 := hw1.size
    have S1 := Lib.hid (hS.out.beyond hw1)
    have T1 := Lib.hid (hT.out.beyond hw1)

    go_wp2_with fail
    go_loop [5, 6] (fun b k => ∃ K : Nat, K ≤ n ∧ k = .int .i64 K ∧ b = .bool false) (fun _ k => n - (intOf k).toNat)
    case atStart => exact ⟨0, by omega, rfl, by first | rfl | (simp; omega)⟩
    case round =>
      obtain ⟨K, hK, rfl, rfl⟩ := hrel
      by_cases hKn : K < n
      · go_wp2_with fail
        go_round
        case rel => exact ⟨K + 1, by omega, by go_num, rfl⟩
        case measure => simp [intOf]; omega
      · have hnk : ¬ ((K : Int) < (n : Int)) := by omega
        go_wp2_with fail
        go_loop [5, 7] (fun b k => ∃ K : Nat, K ≤ m ∧ k = .int .i64 K ∧ b = .bool false) (fun _ k => m - (intOf k).toNat)
        case atStart => exact ⟨0, by omega, rfl, rfl⟩
        case round =>
          obtain ⟨J, hJ, rfl, rfl⟩ := hrel
          by_cases hJm : J < m
          · go_wp2_with fail
            go_round
            case rel => exact ⟨J + 1, by omega, by go_num, rfl⟩
            case measure => simp [intOf]; omega
          · have hmj : ¬ ((J : Int) < (m : Int)) := by omega
            go_wp2_with fail
            with_reducible refine (FB.out _ S1.out T1.out).mono ?_
            rintro e w' ⟨rfl, rfl⟩
            go_wp2_with fail
            go_ret
            exact ⟨rfl, hw1⟩

set_option maxRecDepth 100000 in
set_option maxHeartbeats 12800000 in
theorem waveFold_short (ad : Option Addr) (n c : Nat) (f : Nat → Int) (bd : Option Addr) (m d : Nat) (g : Nat → Int) (w : World) (hS : Sl .i64 w ad n f) (hT : Sl .i64 w bd m g) (hn : n ≤ 256) (hm : m ≤ 256) :
    Calls Try.prog 12 #[.slice ad n c, .slice bd m d] w fun e w' => e = .returned (.bool true) ∧ Below w.heap.size w w' := by
  obtain ⟨i0, hi, iz0, iz1, iz2⟩ := info_parts info_int
  have FB := Lib.hid (fun w hS hT h => fold_bad ad bd n c m d f g w hS hT (by omega) (by omega) h)
  have FE := Lib.hid (fun w hS hT hf hg h => fold_empty ad bd n c m d f g w hS hT hn hm hf hg h)
  have FY := Lib.hid (fun w hS hT hn0 hm0 hf hg => fold_ret ad bd n c m d f g w hS hT hn hm hn0 hm0 hf hg)
  replace hS := Lib.hid hS
  replace hT := Lib.hid hT
  have AW := Lib.hid awake8_true
  go_enter Try.func12, Try.ntmps12
  go_wp2_with fail
  with_reducible refine (AW.out _).mono ?_
  rintro e w1 ⟨rfl, hw1⟩
  have hz1 := hw1.size
  have S1 := Lib.hid (hS.out.beyond hw1)
  have T1 := Lib.hid (hT.out.beyond hw1)
  go_wp2_with fail
  go_loop [5, 6] (fun b k => ∃ K : Nat, K ≤ n ∧ k = .int .i64 K ∧ ∃ B, b = .bool B ∧ Hid (B = true ↔ Dig K f)) (fun _ k => n - (intOf k).toNat)
  case atStart => exact ⟨0, by omega, rfl, true, by first | rfl | (simp; omega), Lib.hid ⟨fun _ i hi => by omega, fun _ => rfl⟩⟩
  case round =>
    obtain ⟨K, hK, rfl, B, rfl, hB⟩ := hrel
    by_cases hKn : K < n
    · obtain ⟨a, rfl, hl, hc⟩ := S1.out K hKn
      cases B
      · have hB' : Hid (false = true ↔ Dig (K + 1) f) := Lib.hid ⟨fun h => (by cases h), fun h => hB.out.2 (dig_le h (by omega))⟩
        clear hB
        go_wp2_with fail
        go_round
        case rel => exact ⟨K + 1, by omega, by go_num, false, rfl, hB'⟩
        case measure => simp [intOf]; omega
      · by_cases f0 : 0 ≤ f K
        · by_cases f1 : f K ≤ 65535
          · have hB' : Hid (true = true ↔ Dig (K + 1) f) := Lib.hid ⟨fun _ => dig_step (hB.out.1 rfl) f0 f1, fun _ => rfl⟩
            clear hB
            go_wp2_with fail
            go_round
            case rel => exact ⟨K + 1, by omega, by go_num, true, by first | rfl | (simp [*]; done), hB'⟩
            case measure => simp [intOf]; omega
          · have hB' : Hid (false = true ↔ Dig (K + 1) f) := Lib.hid ⟨fun h => (by cases h), fun h => absurd (h K (by omega)).2 f1⟩
            clear hB
            go_wp2_with fail
            go_round
            case rel => exact ⟨K + 1, by omega, by go_num, false, by first | rfl | (simp [*]; done) | (simp; omega), hB'⟩
            case measure => simp [intOf]; omega
        · have hB' : Hid (false = true ↔ Dig (K + 1) f) := Lib.hid ⟨fun h => (by cases h), fun h => absurd (h K (by omega)).1 f0⟩
          clear hB
          go_wp2_with fail
          go_round
          case rel => exact ⟨K + 1, by omega, by go_num, false, by first | rfl | (simp [*]; done) | (simp; omega), hB'⟩
          case measure => simp [intOf]; omega
    · obtain rfl : K = n := by omega
      have hnk : ¬ ((K : Int) < (K : Int)) := by omega
      go_wp2_with fail
      go_loop [5, 7] (fun b k => ∃ J : Nat, J ≤ m ∧ k = .int .i64 J ∧ ∃ B, b = .bool B ∧ Hid (B = true ↔ Dig K f ∧ Dig J g)) (fun _ k => m - (intOf k).toNat)
      case atStart => exact ⟨0, by omega, rfl, B, rfl, Lib.hid ⟨fun h => ⟨hB.out.1 h, fun i hi => by omega⟩, fun h => hB.out.2 h.1⟩⟩
      case round =>
        clear hB
        obtain ⟨J, hJ, rfl, B, rfl, hB⟩ := hrel
        by_cases hJm : J < m
        · obtain ⟨a, rfl, hl, hc⟩ := T1.out J hJm
          cases B
          · have hB' : Hid (false = true ↔ Dig K f ∧ Dig (J + 1) g) := Lib.hid ⟨fun h => (by cases h), fun h => hB.out.2 ⟨h.1, dig_le h.2 (by omega)⟩⟩
            clear hB
            go_wp2_with fail
            go_round
            case rel => exact ⟨J + 1, by omega, by go_num, false, rfl, hB'⟩
            case measure => simp [intOf]; omega
          · by_cases f0 : 0 ≤ g J
            · by_cases f1 : g J ≤ 65535
              · have hB' : Hid (true = true ↔ Dig K f ∧ Dig (J + 1) g) := Lib.hid ⟨fun _ => ⟨(hB.out.1 rfl).1, dig_step (hB.out.1 rfl).2 f0 f1⟩, fun _ => rfl⟩
                clear hB
                go_wp2_with fail
                go_round
                case rel => exact ⟨J + 1, by omega, by go_num, true, by first | rfl | (simp [*]; done), hB'⟩
                case measure => simp [intOf]; omega
              · have hB' : Hid (false = true ↔ Dig K f ∧ Dig (J + 1) g) := Lib.hid ⟨fun h => (by cases h), fun h => absurd (h.2 J (by omega)).2 f1⟩
                clear hB
                go_wp2_with fail
                go_round
                case rel => exact ⟨J + 1, by omega, by go_num, false, by first | rfl | (simp [*]; done) | (simp; omega), hB'⟩
                case measure => simp [intOf]; omega
            · have hB' : Hid (false = true ↔ Dig K f ∧ Dig (J + 1) g) := Lib.hid ⟨fun h => (by cases h), fun h => absurd (h.2 J (by omega)).1 f0⟩
              clear hB
              go_wp2_with fail
              go_round
              case rel => exact ⟨J + 1, by omega, by go_num, false, by first | rfl | (simp [*]; done) | (simp; omega), hB'⟩
              case measure => simp [intOf]; omega
        · obtain rfl : J = m := by omega
          have hmj : ¬ ((J : Int) < (J : Int)) := by omega
          cases B
          · have FBB := Lib.hid (FB.out w1 S1.out T1.out (fun h => by have h2 := hB.out.2 ⟨h.1.2, h.2.2⟩; cases h2))
            clear hB FB FE FY
            go_wp2_with fail
            with_reducible refine (FBB.out).mono ?_
            rintro e w' ⟨rfl, rfl⟩
            go_wp2_with fail
            go_ret
            exact ⟨rfl, hw1⟩
          · obtain ⟨hf, hg⟩ := hB.out.1 rfl
            by_cases hn0 : K = 0
            · subst hn0
              have FEE := Lib.hid (FE.out w1 S1.out T1.out hf hg (.inl rfl))
              clear hB FB FE FY hf hg
              go_wp2_with fail
              with_reducible refine (FEE.out).mono ?_
              rintro e w' ⟨rfl, rfl⟩
              go_wp2_with fail
              go_ret
              exact ⟨rfl, hw1⟩
            · by_cases hm0 : J = 0
              · subst hm0
                have FEE := Lib.hid (FE.out w1 S1.out T1.out hf hg (.inr rfl))
                have q0 : ((K : Int) == 0) = false := beq_f (by omega)
                clear hB FB FE FY hf hg
                go_wp2_with fail
                with_reducible refine (FEE.out).mono ?_
                rintro e w' ⟨rfl, rfl⟩
                go_wp2_with fail
                go_ret
                exact ⟨rfl, hw1⟩
              · have FYY := Lib.hid (FY.out w1 S1.out T1.out (by omega) (by omega) hf hg)
                have q0 : ((K : Int) == 0) = false := beq_f (by omega)
                have q1 : ((J : Int) == 0) = false := beq_f (by omega)
                have fb := Lib.hid (fz_bound hf)
                have gb := Lib.hid (fz_bound hg)
                clear hB FB FE FY hf hg
                obtain ⟨F, hF⟩ : ∃ F, fz f K = F := ⟨_, rfl⟩
                obtain ⟨G, hG⟩ : ∃ G, fz g J = G := ⟨_, rfl⟩
                have hFf := Lib.hid (show ∀ i, i < K → F i = f i from fun i hi => by rw [← hF]; unfold fz; rw [if_pos hi])
                have hGg := Lib.hid (show ∀ i, i < J → G i = g i from fun i hi => by rw [← hG]; unfold fz; rw [if_pos hi])
                rw [hF] at fb
                rw [hG] at gb
                rw [hF, hG] at FYY
                clear hF hG
                go_wp2_with fail
                with_reducible refine (FYY.out).mono ?_
                rintro e w2 ⟨gl, cl, rfl, hcl, rl, hb2⟩
                have hw2 := hw1.trans (hb2.mono hz1)
                have hz2' := hw2.size
                have ll := rl.lt
                clear hb2 FYY
                replace rl := Lib.hid rl
                go_wp2_with (at_make; refine wpList_make_full _ rfl _ _ 53 rfl w2.heap.size 3 i0 (.int .i64 0) 1 Try.underlying53 hi iz0 iz1 .i64 .i64 ((K : Int) + J - 1) ((K : Int) + J - 1) (K + J - 1) rfl rfl (by omega) (by omega) (by rw [iz2]; omega) (by unfold maxLen; omega) (Nat.le_refl _) ?_; intro w3 hown3 hgrow3)
                have ro := owns_row_at hown3 (by omega) (oi (fun _ => 0)) (fun t ht => by
                  simp only [Nat.mul_one] at ht ⊢
                  exact made_get rfl ht)
                rw [Nat.mul_one] at ro
                have hb3 : Below w2.heap.size w2 w3 := Below.grown (Below.refl _ _) hgrow3 (Nat.le_refl _) (fun k hk => by cases hk)
                have rl3 := rl.out.beyond hb3
                have hw3 := hw2.trans (hb3.mono hz2')
                clear hown3 hgrow3 hb3 rl
                replace ro := Lib.hid ro
                replace rl3 := Lib.hid rl3
                have hlo := Lib.hid (show gl ≠ w2.heap.size by omega)
                go_wp2_with fail
                go_loopw [11] (fun k wr => ∃ I : Nat, I ≤ K ∧ k = .int .i64 I ∧ Row wr w2.heap.size (K + J - 1) (oi (wI F G J I)) ∧ Row wr gl (K + J - 1) (oi (wI F G J K)) ∧ Below w.heap.size w wr) (fun k _ => K - (intOf k).toNat)
                case atStart => exact ⟨0, by omega, rfl, ro.out, rl3.out, hw3⟩
                case round =>
                  obtain ⟨I, hI, rfl, s1, s2, hbw⟩ := hrel
                  clear ro rl3 hw3
                  by_cases hIK : I < K
                  · replace s1 := Lib.hid s1
                    replace s2 := Lib.hid s2
                    go_wp2_with fail
                    go_loopw [12] (fun k wr => ∃ V : Nat, V ≤ J ∧ k = .int .i64 V ∧ Row wr w2.heap.size (K + J - 1) (oi (wJ F G (wI F G J I) I V)) ∧ Row wr gl (K + J - 1) (oi (wI F G J K)) ∧ Below w.heap.size w wr) (fun k _ => J - (intOf k).toNat)
                    case atStart => exact ⟨0, by omega, rfl, s1.out, s2.out, hbw⟩
                    case round =>
                      clear s1 s2 hbw
                      obtain ⟨V, hV, rfl, s1, s2, hbw⟩ := hrel
                      obtain ⟨wo, rfl⟩ : ∃ wo : World, wo = wr := ⟨_, rfl⟩
                      by_cases hVJ : V < J
                      · obtain ⟨a, ha, hal, hac⟩ := hS.out.beyond hbw I hIK
                        obtain ⟨b, hb', hbl, hbc⟩ := hT.out.beyond hbw V hVJ
                        have hidx : I + V < K + J - 1 := by omega
                        have eo := s1.at (I + V) hidx
                        have fo := s1.free (I + V) hidx
                        have lo := s1.lt
                        unfold oi at eo
                        have hb1 := wI_bound F G fb.out gb.out J (by omega) (I + V) I
                        have hb2 := wJ_bound F G (wI F G J I) fb.out gb.out I (I + V) _ hb1 V
                        have x1 := fb.out I
                        have x2 := gb.out V
                        rw [← hFf.out I hIK] at hac
                        rw [← hGg.out V hVJ] at hbc
                        have p0 : 0 ≤ F I * G V := Int.mul_nonneg x1.1 x2.1
                        have p1 : F I * G V ≤ 65535 * 65535 := Int.mul_le_mul x1.2 x2.2 x2.1 (by decide)
                        have st := Lib.hid (fun (W : World) (r : Row W w2.heap.size (K + J - 1) (oi (wJ F G (wI F G J I) I V))) => oi_add r (I + V) hidx (F I * G V))
                        have hst : Hid (wJ F G (wI F G J I) I (V + 1) = addAt (wJ F G (wI F G J I) I V) (I + V) (F I * G V)) := Lib.hid rfl
                        have hav : 0 ≤ wJ F G (wI F G J I) I V (I + V) ∧ wJ F G (wI F G J I) I V (I + V) ≤ 1125899906842624 := by omega
                        obtain ⟨v0, v1⟩ := hav
                        clear hb1 hb2
                        generalize hve : wJ F G (wI F G J I) I V (I + V) = av at *
                        generalize F I = x at *
                        generalize G V = y at *
                        obtain ⟨pr, hpr⟩ : ∃ pr, x * y = pr := ⟨_, rfl⟩
                        have w1 : wrap64 (x * y) = pr := by rw [hpr] at p0 p1 ⊢; unfold wrap64; omega
                        have w2' : IntKind.i64.wrap (x * y) = pr := by rw [hpr] at p0 p1 ⊢; rw [IntKind.wrap_i64]; omega
                        have k0 : (0 : Int) ≤ (I : Int) := by omega
                        have k1 : (I : Int) < (K : Int) := by omega
                        have k2 : (0 : Int) ≤ (V : Int) := by omega
                        have k3 : (V : Int) < (J : Int) := by omega
                        subst ha hb'
                        replace hve := Lib.hid hve
                        replace s1 := Lib.hid s1
                        replace s2 := Lib.hid s2
                        rw [hpr] at p0 p1 st hst
                        replace hpr := Lib.hid hpr
                        go_wp2_with fail
                        go_region
                        all_goals
                          go_wp2_with fail
                          go_roundw
                          case measure => simp [intOf]; omega
                          case rel =>
                            have hbw' : Below w.heap.size w (wo.setCell ⟨w2.heap.size, I + V, none⟩ (.int .i64 (av + pr))) := hbw.setCell (by show w.heap.size ≤ w2.heap.size; omega) _
                            refine ⟨V + 1, by omega, by go_num, ?_, ?_, ?_⟩
                            · have q1 := st.out _ s1.out
                              rw [← hst.out] at q1
                              exact q1
                            · exact s2.out.setOther _ (Ne.symm hlo.out) _
                            · repeat' (first | (with_reducible exact hbw') | (with_reducible refine below_drewN ?_ _) | (with_reducible refine Below.drew ?_))
                      · have hVe : V = J := by omega
                        rw [hVe] at s1
                        replace s1 := Lib.hid s1
                        replace s2 := Lib.hid s2
                        go_wp2_with fail
                        go_roundw
                        case measure => simp [intOf]; omega
                        case rel => exact ⟨I + 1, by omega, by go_num, s1.out, s2.out, hbw⟩
                  · have hIe : I = K := by omega
                    rw [hIe] at s1
                    have SI := Lib.hid (sameInts_yes (some ⟨gl, 0, none⟩) (some ⟨w2.heap.size, 0, none⟩) (K + J - 1) cl (K + J - 1) (wI F G J K) _ (by omega) (row_sl s2) (row_sl s1))
                    have hdk : decide ((I : Int) < (K : Int)) = false := by simp; omega
                    replace s1 := Lib.hid s1
                    replace s2 := Lib.hid s2
                    go_wp2_with fail
                    with_reducible refine (SI.out).mono ?_
                    rintro e w6 ⟨rfl, q, rfl⟩
                    go_wp2_with fail
                    go_ret
                    exact ⟨rfl, by repeat' (first | (with_reducible assumption) | (with_reducible exact Below.refl _ _) | (with_reducible refine below_drewN ?_ _) | (with_reducible refine Below.drew ?_) | (with_reducible refine Below.setCell ?_ ?_ _) | (with_reducible refine Below.alloc ?_ ?_ _) | omega | (simp; done) | (simp; omega))⟩
theorem waveFold_walk (ad : Option Addr) (n c : Nat) (f : Nat → Int) (bd : Option Addr) (m d : Nat) (g : Nat → Int) (w : World) (hS : Sl .i64 w ad n f) (hn : n ≤ maxLen) (_hf : WfN n f) (hT : Sl .i64 w bd m g) (hm : m ≤ maxLen) (_hg : WfN m g) :
    Calls Try.prog 12 #[.slice ad n c, .slice bd m d] w fun e w' => e = .returned (.bool true) ∧ Below w.heap.size w w' := by
  by_cases h1 : n ≤ 300
  · by_cases h2 : m ≤ 300
    · by_cases h3 : n ≤ 256 ∧ m ≤ 256
      · exact waveFold_short ad n c f bd m d g w hS hT h3.1 h3.2
      · exact waveFold_long ad n c f bd m d g w hS hT h1 h2 h3
    · have AW := Lib.hid awake8_true
      clear hS hT _hf _hg
      go_enter Try.func12, Try.ntmps12
      go_wp2_with fail
      with_reducible refine (AW.out _).mono ?_
      rintro e w1 ⟨rfl, hw1⟩
      go_wp2_with fail
      go_ret
      exact ⟨rfl, hw1⟩
  · have AW := Lib.hid awake8_true
    clear hS hT _hf _hg
    go_enter Try.func12, Try.ntmps12
    go_wp2_with fail
    with_reducible refine (AW.out _).mono ?_
    rintro e w1 ⟨rfl, hw1⟩
    go_wp2_with fail
    go_ret
    exact ⟨rfl, hw1⟩
end Go.Proofs.Ytimgmobpgbekjaa
