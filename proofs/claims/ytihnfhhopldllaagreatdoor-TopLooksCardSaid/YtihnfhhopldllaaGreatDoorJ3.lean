/- Parts of the proof of TopLooks: U2, U3, M3, M4. No condition. -/
import Derived.Test.YtihnfhhopldllaaGreatDoorJ1
import Derived.Test.YtihnfhhopldllaaGreatDoorJ2
namespace Go.Proofs.YtihnfhhopldllaaGreatDoor
set_option linter.unusedSimpArgs false
set_option linter.unusedVariables false
set_option maxHeartbeats 6400000
set_option maxRecDepth 100000
section
open Go.RowKit
theorem rune_any (ad : Option Addr) (n c k : Nat) (l : List UInt8) (hl : l.length = n) (hn : n ≤ 1000000) (w : World) (hS : Sb w ad l) :
    Calls Tryz.prog 254 #[.slice ad n c, .int .i64 k] w fun e w' => e = .returned (.tuple #[.int .i64 ((chr (l.drop k)).1 : Int), .int .i64 ((chr (l.drop k)).2 : Int)]) ∧ w = w' := by
  by_cases hk : k < n
  · obtain ⟨x, hxx⟩ : ∃ x, l[k]? = some x := ⟨_, List.getElem?_eq_getElem (by omega)⟩
    obtain ⟨a0, rfl, hlt, hx⟩ := hS k x hxx
    obtain ⟨rest, hre⟩ : ∃ r, l.drop (k + 1) = r := ⟨_, rfl⟩
    have hrl : k + 1 + rest.length = n := by rw [← hre, List.length_drop]; omega
    have hR : ∀ i y, rest[i]? = some y → w.cell? (a0.add (k + (i + 1))) = some (.int .u8 (y.toNat : Int)) := fun i y hy => by
      rw [← hre, List.getElem?_drop, show k + 1 + i = k + (i + 1) by omega] at hy
      obtain ⟨a1, h1, _, h3⟩ := hS _ _ hy
      injection h1 with h1
      subst h1
      exact h3
    rw [drop_at hxx, hre]
    have hb := x.toNat_lt
    by_cases h0 : x.toNat < 128
    · rw [chr_ascii rest h0]
      exact rune_one a0 n c k (x.toNat : Int) (by omega) (by omega) hk w hx
    by_cases hc1 : 192 ≤ x.toNat ∧ x.toNat < 224
    · have hcl : cls x.toNat = some (x.toNat % 32, 1, 128) := by unfold cls; rw [if_pos (by omega)]
      by_cases hs : 1 ≤ rest.length
      · rw [chr_cls hcl]
        exact rune_c1 a0 n c k (x.toNat : Int) rest (x.toNat % 32) (by omega) (by omega) (by omega) hn (by omega) w hx (Lib.hid hR) (Lib.hid hs)
      · rw [chr_short hcl (by omega)]
        exact rune_short1 a0 n c k (x.toNat : Int) (by omega) (by omega) hk (by omega) w hx
    by_cases hc2 : 224 ≤ x.toNat ∧ x.toNat < 240
    · have hcl : cls x.toNat = some (x.toNat % 16, 2, 2048) := by unfold cls; rw [if_neg (by omega), if_pos (by omega)]
      by_cases hs : 2 ≤ rest.length
      · rw [chr_cls hcl]
        exact rune_c2 a0 n c k (x.toNat : Int) rest (x.toNat % 16) (by omega) (by omega) (by omega) hn (by omega) w hx (Lib.hid hR) (Lib.hid hs)
      · rw [chr_short hcl (by omega)]
        exact rune_short2 a0 n c k (x.toNat : Int) (by omega) (by omega) hk (by omega) w hx
    by_cases hc3 : 240 ≤ x.toNat ∧ x.toNat < 248
    · have hcl : cls x.toNat = some (x.toNat % 8, 3, 65536) := by unfold cls; rw [if_neg (by omega), if_neg (by omega), if_pos (by omega)]
      by_cases hs : 3 ≤ rest.length
      · rw [chr_cls hcl]
        exact rune_c3 a0 n c k (x.toNat : Int) rest (x.toNat % 8) (by omega) (by omega) (by omega) hn (by omega) w hx (Lib.hid hR) (Lib.hid hs)
      · rw [chr_short hcl (by omega)]
        exact rune_short3 a0 n c k (x.toNat : Int) (by omega) (by omega) hk (by omega) w hx
    have hcl : cls x.toNat = none := by unfold cls; rw [if_neg hc1, if_neg hc2, if_neg hc3]
    rw [chr_noCls h0 hcl]
    exact rune_odd a0 n c k (x.toNat : Int) (by omega) (by omega) (by omega) hk w hx
  · rw [List.drop_eq_nil_of_le (by omega)]
    exact rune_end ad n c k (by omega) w
theorem look_any (ad : Option Addr) (n c : Nat) (l : List UInt8) (hl : l.length = n) (hn : n ≤ 1000000) (w : World) (hS : Sb w ad l) :
    Calls Tryz.prog 206 #[.slice ad n c] w fun e w' => (∃ z, e = .returned (.tuple #[.int .i64 (lookL l : Int), z])) ∧ w = w' := by
  have RU := Lib.hid (fun k => rune_any ad n c k l hl hn w hS)
  have HL := Lib.hid (rfl : lookL l = lookL l)
  have hle := lookL_le l
  generalize hR : lookL l = R at *
  have HR := Lib.hid hR
  have HN := Lib.hid hl
  clear hR hS hl HL
  go_enter Tryz.func206, Tryz.ntmps206
  go_wp2_with fail
  go_loop [2, 3] (fun x y => ∃ k c : Nat, k ≤ n ∧ c ≤ k ∧ x = .int .i64 k ∧ y = .int .i64 c ∧ Hid (k + lookL (l.drop k) = R)) (fun x _ => n - (intOf x).toNat)
  case atStart => exact ⟨0, 0, by omega, by omega, rfl, rfl, Lib.hid (by rw [List.drop_zero, Nat.zero_add]; exact HR.out)⟩
  case round =>
    obtain ⟨k, c', hk, hc, rfl, rfl, HV⟩ := hrel
    by_cases hkn : k < n
    · have hch := (chr_le (l.drop k)).1
      rw [List.length_drop, HN.out] at hch
      have H1 := RU.out k
      by_cases h0 : (chr (l.drop k)).2 = 0
      · have he : R = k := by rw [← HV.out, lookL_stop h0]; rfl
        subst he
        rw [h0] at H1
        have H1 := Lib.hid H1
        clear h0 hch
        go_wp2_with fail
        with_reducible refine (H1.out).mono ?_
        rintro e w' ⟨rfl, rfl⟩
        go_wp2_with fail
        go_ret2
        exact ⟨⟨_, rfl⟩, rfl⟩
      · have hst := lookL_step h0
        obtain ⟨m, hm⟩ : ∃ m, (chr (l.drop k)).2 = m := ⟨_, rfl⟩
        obtain ⟨q, hq⟩ : ∃ m, (chr (l.drop k)).1 = m := ⟨_, rfl⟩
        rw [hm, hq] at H1
        rw [hm] at hst hch h0
        have H1 := Lib.hid H1
        have HV2 : Hid (k + m + lookL (l.drop (k + m)) = R) := Lib.hid (by rw [← HV.out, hst, List.drop_drop]; omega)
        have hm0 : ¬ (m : Int) = 0 := by omega
        clear hst hm hq
        go_wp2_with fail
        with_reducible refine (H1.out).mono ?_
        rintro e w' ⟨rfl, rfl⟩
        go_wp2_with fail
        go_round
        case rel => exact ⟨k + m, c' + 1, by omega, by omega, by go_num, by go_num, HV2⟩
        case measure => simp [intOf]; omega
    · have he : R = k := by rw [← HV.out, List.drop_eq_nil_of_le (by have := HN.out; omega)]; rfl
      subst he
      go_wp2_with fail
      go_ret2
      exact ⟨⟨_, rfl⟩, rfl⟩
theorem check_any (ad : Option Addr) (n c : Nat) (l : List UInt8) (hl : l.length = n) (hn : n ≤ 1000000) (w : World) (hS : Sb w ad l) :
    Calls Tryz.prog 124 #[.slice ad n c] w fun e w' => e = .returned (.tuple #[.int .i64 (lookL l : Int), .bool (decide (Wh l))]) ∧ w = w' := by
  have H := Lib.hid (look_any ad n c l hl hn w hS)
  have hle := lookL_le l
  have key : ∀ b, b = decide (Wh l) → Calls Tryz.prog 124 #[.slice ad n c] w fun e w' => e = .returned (.tuple #[.int .i64 (lookL l : Int), .bool b]) ∧ w = w' := fun b hb => by
    have hb2 : ((lookL l : Int) == (n : Int)) = b := by
      rw [hb]
      by_cases h : Wh l
      · rw [decide_eq_true h]; exact beq_t (by have h2 : lookL l = l.length := h; omega)
      · rw [decide_eq_false h]; exact beq_f (fun e => h (show lookL l = l.length by omega))
    generalize lookL l = R at *
    clear hb hS hl
    cases b
    all_goals
      go_enter Tryz.func124, Tryz.ntmps124
      go_wp2_with fail
      with_reducible refine (H.out).mono ?_
      rintro e w' ⟨⟨z, rfl⟩, rfl⟩
      go_wp2_with fail
      go_ret2
      exact ⟨by simp_all, rfl⟩
  exact key _ rfl
end
section
open Go.RowKit
theorem rs_yes' {l : List UInt8} {r0 m R j : Nat} {Y : UInt8} (h : RS l r0 m R j) (hm : m ≤ 3) (hj : j < m) (hY : l[j]? = some Y) (hb : 128 ≤ Y.toNat ∧ Y.toNat < 192) : RS l r0 m (R * 64 + Y.toNat % 64) (j + 1) :=
  rs_yes h hm hj hY (by rw [cont_bits, decide_eq_true hb]; rfl)
theorem rs_no2 {least : Nat} {l : List UInt8} {r0 m R j : Nat} {Y : UInt8} (h : RS l r0 m R j) (hj : j < m) (hY : l[j]? = some Y) (hb : ¬ (128 ≤ Y.toNat ∧ Y.toNat < 192)) : fin least m (moreR m r0 l) = (0, 0) :=
  rs_no h hj hY (by rw [cont_bits, decide_eq_false hb]; rfl)
theorem rrune_c1 (a0 : Addr) (n c k : Nat) (X : Int) (l : List UInt8) (r0 : Nat) (h1 : 192 ≤ X) (h2 : X < 224) (hr : X % 32 = r0) (hn : n ≤ 1000000) (hk : (k : Int) + 1 < n) (w : World) (hx : w.cell? (a0.add k) = some (.int .u8 X)) (hS : Hid (∀ i y, l[i]? = some y → w.cell? (a0.add (k + (i + 1))) = some (.int .u8 (y.toNat : Int)))) (hl : Hid (1 ≤ l.length)) :
    Calls Tryz.prog 253 #[.slice (some a0) n c, .int .i64 k] w fun e w' => e = .returned (.tuple #[.int .i64 ((fin 128 1 (moreR 1 r0 l)).1 : Int), .int .i64 ((fin 128 1 (moreR 1 r0 l)).2 : Int)]) ∧ w = w' := by
  have e1 : wrap64 X = X := by rw [wrap64]; omega
  have e2 : ¬ X < 128 := by omega
  have e3 : X - 192 = (r0 : Int) := by omega
  have hkn : (k : Int) < n := by omega
  have hr32 : r0 < 32 := by omega
  go_enter Tryz.func253, Tryz.ntmps253
  go_wp2_with fail
  go_loop [8, 10] (fun x y => ∃ R j : Nat, x = .int .i64 R ∧ y = .int .i64 ((j : Int) + 1) ∧ Hid (RS l r0 1 R j)) (fun _ y => 10 - (intOf y).toNat)
  case atStart => exact ⟨r0, 0, rfl, rfl, Lib.hid (rs_start l r0 1 hr32)⟩
  case round =>
    obtain ⟨R, j, rfl, rfl, hj⟩ := hrel
    have hj3 : j ≤ 1 := hj.out.1
    by_cases hjm : j < 1
    · obtain ⟨Y, hY⟩ : ∃ Y, l[j]? = some Y := ⟨_, List.getElem?_eq_getElem (by have := hl.out; omega)⟩
      have hc := hS.out j Y hY
      have hR : R < 131072 := by have := hj.out.2.2; omega
      have hYb := Y.toNat_lt
      by_cases hb : 128 ≤ Y.toNat ∧ Y.toNat < 192
      · have hy := rs_yes' hj.out (by decide) hjm hY hb
        obtain ⟨Z, hZ⟩ : ∃ Z, R * 64 + Y.toNat % 64 = Z := ⟨_, rfl⟩
        rw [hZ] at hy
        have hy := Lib.hid hy
        obtain ⟨yi, hyi⟩ : ∃ z : Int, (Y.toNat : Int) = z := ⟨_, rfl⟩
        have y1 : ¬ yi < 128 := by omega
        have y2 : yi < 192 := by omega
        have y3 : wrap64 yi = yi := by rw [wrap64]; omega
        obtain ⟨ri, hri⟩ : ∃ z : Int, (R : Int) = z := ⟨_, rfl⟩
        have y4 : ri * 64 + yi - 128 = (Z : Int) := by omega
        have y0 : 0 ≤ ri := by omega
        have y5 : ri < 131072 := by omega
        rw [hyi] at hc
        simp only [hri]
        clear hj hY hZ hR hyi hri hb hYb
        go_wp2_with fail
        go_round
        case rel => exact ⟨Z, j + 1, by go_num, by go_num, hy⟩
        case measure => simp [intOf]; omega
      · have hnn := Lib.hid (rs_no2 (least := 128) hj.out hjm hY hb)
        rcases (show Y.toNat < 128 ∨ (¬ Y.toNat < 128 ∧ 192 ≤ Y.toNat) by omega) with hb1 | ⟨hb1, hb2⟩
        · obtain ⟨yi, hyi⟩ : ∃ z : Int, (Y.toNat : Int) = z := ⟨_, rfl⟩
          have y1 : yi < 128 := by omega
          have y3 : wrap64 yi = yi := by rw [wrap64]; omega
          rw [hyi] at hc
          clear hj hY hb hyi hb1 hYb hR
          go_wp2_with fail
          go_ret2
          rw [hnn.out]
          exact ⟨rfl, rfl⟩
        · obtain ⟨yi, hyi⟩ : ∃ z : Int, (Y.toNat : Int) = z := ⟨_, rfl⟩
          have y1 : ¬ yi < 128 := by omega
          have y2 : 192 ≤ yi := by omega
          have y3 : wrap64 yi = yi := by rw [wrap64]; omega
          rw [hyi] at hc
          clear hj hY hb hyi hb1 hb2 hYb hR
          go_wp2_with fail
          go_ret2
          rw [hnn.out]
          exact ⟨rfl, rfl⟩
    · obtain rfl : j = 1 := by omega
      have he := Lib.hid (rs_end hj.out hjm)
      obtain ⟨RI, hRI⟩ : ∃ z : Int, (R : Int) = z := ⟨_, rfl⟩
      simp only [hRI]
      have hR0 : 0 ≤ RI := by omega
      by_cases hq : 128 ≤ R ∧ isR R
      · have hnn : Hid (fin 128 1 (moreR 1 r0 l) = (R, 1 + 1)) := Lib.hid (by rw [he.out]; exact if_pos hq)
        obtain ⟨q1, q2, q3⟩ := hq
        have g1 : ¬ RI < 128 := by omega
        have g2 : ¬ 1114111 < RI := by omega
        rcases (show RI < 55296 ∨ (¬ RI < 55296 ∧ 57343 < RI) by omega) with g3 | ⟨g3, g4⟩
        all_goals
          first
            | (exfalso; omega)
            | (replace hRI := Lib.hid hRI
               clear hj he hjm q1 q2 q3
               go_wp2_with fail
               go_ret2
               rw [hnn.out, ← hRI.out]
               exact ⟨rfl, rfl⟩)
      · have hnn : Hid (fin 128 1 (moreR 1 r0 l) = (0, 0)) := Lib.hid (by rw [he.out]; exact if_neg hq)
        have hcase : RI < 128 ∨ (¬ RI < 128 ∧ 1114111 < RI) ∨ (¬ RI < 128 ∧ ¬ 1114111 < RI ∧ 55296 ≤ RI ∧ RI ≤ 57343) := by
          unfold isR at hq
          omega
        rcases hcase with g1 | ⟨g1, g2⟩ | ⟨g1, g2, g3, g4⟩
        all_goals
          clear hj he hjm hq hRI
          go_wp2_with fail
          go_ret2
          rw [hnn.out]
          exact ⟨rfl, rfl⟩
theorem rrune_short1 (a0 : Addr) (n c k : Nat) (X : Int) (h0 : 192 ≤ X) (h1 : X < 224) (hk : k < n) (hn : n ≤ 1000000) (hs : (n : Int) ≤ k + 1) (w : World) (hx : w.cell? (a0.add k) = some (.int .u8 X)) : Calls Tryz.prog 253 #[.slice (some a0) n c, .int .i64 k] w fun e w' => e = .returned (.tuple #[.int .i64 0, .int .i64 0]) ∧ w = w' := by
  have e1 : wrap64 X = X := by rw [wrap64]; omega
  have hk' : (k : Int) < n := by omega
  have e2 : ¬ X < 128 := by omega
  go_enter Tryz.func253, Tryz.ntmps253
  go_wp2_with fail
  go_ret2
  exact ⟨rfl, rfl⟩
theorem rrune_c2 (a0 : Addr) (n c k : Nat) (X : Int) (l : List UInt8) (r0 : Nat) (h1 : 224 ≤ X) (h2 : X < 240) (hr : X % 16 = r0) (hn : n ≤ 1000000) (hk : (k : Int) + 2 < n) (w : World) (hx : w.cell? (a0.add k) = some (.int .u8 X)) (hS : Hid (∀ i y, l[i]? = some y → w.cell? (a0.add (k + (i + 1))) = some (.int .u8 (y.toNat : Int)))) (hl : Hid (2 ≤ l.length)) :
    Calls Tryz.prog 253 #[.slice (some a0) n c, .int .i64 k] w fun e w' => e = .returned (.tuple #[.int .i64 ((fin 2048 2 (moreR 2 r0 l)).1 : Int), .int .i64 ((fin 2048 2 (moreR 2 r0 l)).2 : Int)]) ∧ w = w' := by
  have e1 : wrap64 X = X := by rw [wrap64]; omega
  have e2 : ¬ X < 128 := by omega
  have e3 : X - 224 = (r0 : Int) := by omega
  have hkn : (k : Int) < n := by omega
  have hr32 : r0 < 32 := by omega
  go_enter Tryz.func253, Tryz.ntmps253
  go_wp2_with fail
  go_loop [8, 10] (fun x y => ∃ R j : Nat, x = .int .i64 R ∧ y = .int .i64 ((j : Int) + 1) ∧ Hid (RS l r0 2 R j)) (fun _ y => 10 - (intOf y).toNat)
  case atStart => exact ⟨r0, 0, rfl, rfl, Lib.hid (rs_start l r0 2 hr32)⟩
  case round =>
    obtain ⟨R, j, rfl, rfl, hj⟩ := hrel
    have hj3 : j ≤ 2 := hj.out.1
    by_cases hjm : j < 2
    · obtain ⟨Y, hY⟩ : ∃ Y, l[j]? = some Y := ⟨_, List.getElem?_eq_getElem (by have := hl.out; omega)⟩
      have hc := hS.out j Y hY
      have hR : R < 131072 := by have := hj.out.2.2; omega
      have hYb := Y.toNat_lt
      by_cases hb : 128 ≤ Y.toNat ∧ Y.toNat < 192
      · have hy := rs_yes' hj.out (by decide) hjm hY hb
        obtain ⟨Z, hZ⟩ : ∃ Z, R * 64 + Y.toNat % 64 = Z := ⟨_, rfl⟩
        rw [hZ] at hy
        have hy := Lib.hid hy
        obtain ⟨yi, hyi⟩ : ∃ z : Int, (Y.toNat : Int) = z := ⟨_, rfl⟩
        have y1 : ¬ yi < 128 := by omega
        have y2 : yi < 192 := by omega
        have y3 : wrap64 yi = yi := by rw [wrap64]; omega
        obtain ⟨ri, hri⟩ : ∃ z : Int, (R : Int) = z := ⟨_, rfl⟩
        have y4 : ri * 64 + yi - 128 = (Z : Int) := by omega
        have y0 : 0 ≤ ri := by omega
        have y5 : ri < 131072 := by omega
        rw [hyi] at hc
        simp only [hri]
        clear hj hY hZ hR hyi hri hb hYb
        go_wp2_with fail
        go_round
        case rel => exact ⟨Z, j + 1, by go_num, by go_num, hy⟩
        case measure => simp [intOf]; omega
      · have hnn := Lib.hid (rs_no2 (least := 2048) hj.out hjm hY hb)
        rcases (show Y.toNat < 128 ∨ (¬ Y.toNat < 128 ∧ 192 ≤ Y.toNat) by omega) with hb1 | ⟨hb1, hb2⟩
        · obtain ⟨yi, hyi⟩ : ∃ z : Int, (Y.toNat : Int) = z := ⟨_, rfl⟩
          have y1 : yi < 128 := by omega
          have y3 : wrap64 yi = yi := by rw [wrap64]; omega
          rw [hyi] at hc
          clear hj hY hb hyi hb1 hYb hR
          go_wp2_with fail
          go_ret2
          rw [hnn.out]
          exact ⟨rfl, rfl⟩
        · obtain ⟨yi, hyi⟩ : ∃ z : Int, (Y.toNat : Int) = z := ⟨_, rfl⟩
          have y1 : ¬ yi < 128 := by omega
          have y2 : 192 ≤ yi := by omega
          have y3 : wrap64 yi = yi := by rw [wrap64]; omega
          rw [hyi] at hc
          clear hj hY hb hyi hb1 hb2 hYb hR
          go_wp2_with fail
          go_ret2
          rw [hnn.out]
          exact ⟨rfl, rfl⟩
    · obtain rfl : j = 2 := by omega
      have he := Lib.hid (rs_end hj.out hjm)
      obtain ⟨RI, hRI⟩ : ∃ z : Int, (R : Int) = z := ⟨_, rfl⟩
      simp only [hRI]
      have hR0 : 0 ≤ RI := by omega
      by_cases hq : 2048 ≤ R ∧ isR R
      · have hnn : Hid (fin 2048 2 (moreR 2 r0 l) = (R, 2 + 1)) := Lib.hid (by rw [he.out]; exact if_pos hq)
        obtain ⟨q1, q2, q3⟩ := hq
        have g1 : ¬ RI < 2048 := by omega
        have g2 : ¬ 1114111 < RI := by omega
        rcases (show RI < 55296 ∨ (¬ RI < 55296 ∧ 57343 < RI) by omega) with g3 | ⟨g3, g4⟩
        all_goals
          first
            | (exfalso; omega)
            | (replace hRI := Lib.hid hRI
               clear hj he hjm q1 q2 q3
               go_wp2_with fail
               go_ret2
               rw [hnn.out, ← hRI.out]
               exact ⟨rfl, rfl⟩)
      · have hnn : Hid (fin 2048 2 (moreR 2 r0 l) = (0, 0)) := Lib.hid (by rw [he.out]; exact if_neg hq)
        have hcase : RI < 2048 ∨ (¬ RI < 2048 ∧ 1114111 < RI) ∨ (¬ RI < 2048 ∧ ¬ 1114111 < RI ∧ 55296 ≤ RI ∧ RI ≤ 57343) := by
          unfold isR at hq
          omega
        rcases hcase with g1 | ⟨g1, g2⟩ | ⟨g1, g2, g3, g4⟩
        all_goals
          clear hj he hjm hq hRI
          go_wp2_with fail
          go_ret2
          rw [hnn.out]
          exact ⟨rfl, rfl⟩
theorem rrune_short2 (a0 : Addr) (n c k : Nat) (X : Int) (h0 : 224 ≤ X) (h1 : X < 240) (hk : k < n) (hn : n ≤ 1000000) (hs : (n : Int) ≤ k + 2) (w : World) (hx : w.cell? (a0.add k) = some (.int .u8 X)) : Calls Tryz.prog 253 #[.slice (some a0) n c, .int .i64 k] w fun e w' => e = .returned (.tuple #[.int .i64 0, .int .i64 0]) ∧ w = w' := by
  have e1 : wrap64 X = X := by rw [wrap64]; omega
  have hk' : (k : Int) < n := by omega
  have e2 : ¬ X < 128 := by omega
  go_enter Tryz.func253, Tryz.ntmps253
  go_wp2_with fail
  go_ret2
  exact ⟨rfl, rfl⟩
theorem rrune_c3 (a0 : Addr) (n c k : Nat) (X : Int) (l : List UInt8) (r0 : Nat) (h1 : 240 ≤ X) (h2 : X < 248) (hr : X % 8 = r0) (hn : n ≤ 1000000) (hk : (k : Int) + 3 < n) (w : World) (hx : w.cell? (a0.add k) = some (.int .u8 X)) (hS : Hid (∀ i y, l[i]? = some y → w.cell? (a0.add (k + (i + 1))) = some (.int .u8 (y.toNat : Int)))) (hl : Hid (3 ≤ l.length)) :
    Calls Tryz.prog 253 #[.slice (some a0) n c, .int .i64 k] w fun e w' => e = .returned (.tuple #[.int .i64 ((fin 65536 3 (moreR 3 r0 l)).1 : Int), .int .i64 ((fin 65536 3 (moreR 3 r0 l)).2 : Int)]) ∧ w = w' := by
  have e1 : wrap64 X = X := by rw [wrap64]; omega
  have e2 : ¬ X < 128 := by omega
  have e3 : X - 240 = (r0 : Int) := by omega
  have hkn : (k : Int) < n := by omega
  have hr32 : r0 < 32 := by omega
  go_enter Tryz.func253, Tryz.ntmps253
  go_wp2_with fail
  go_loop [8, 10] (fun x y => ∃ R j : Nat, x = .int .i64 R ∧ y = .int .i64 ((j : Int) + 1) ∧ Hid (RS l r0 3 R j)) (fun _ y => 10 - (intOf y).toNat)
  case atStart => exact ⟨r0, 0, rfl, rfl, Lib.hid (rs_start l r0 3 hr32)⟩
  case round =>
    obtain ⟨R, j, rfl, rfl, hj⟩ := hrel
    have hj3 : j ≤ 3 := hj.out.1
    by_cases hjm : j < 3
    · obtain ⟨Y, hY⟩ : ∃ Y, l[j]? = some Y := ⟨_, List.getElem?_eq_getElem (by have := hl.out; omega)⟩
      have hc := hS.out j Y hY
      have hR : R < 131072 := by have := hj.out.2.2; omega
      have hYb := Y.toNat_lt
      by_cases hb : 128 ≤ Y.toNat ∧ Y.toNat < 192
      · have hy := rs_yes' hj.out (by decide) hjm hY hb
        obtain ⟨Z, hZ⟩ : ∃ Z, R * 64 + Y.toNat % 64 = Z := ⟨_, rfl⟩
        rw [hZ] at hy
        have hy := Lib.hid hy
        obtain ⟨yi, hyi⟩ : ∃ z : Int, (Y.toNat : Int) = z := ⟨_, rfl⟩
        have y1 : ¬ yi < 128 := by omega
        have y2 : yi < 192 := by omega
        have y3 : wrap64 yi = yi := by rw [wrap64]; omega
        obtain ⟨ri, hri⟩ : ∃ z : Int, (R : Int) = z := ⟨_, rfl⟩
        have y4 : ri * 64 + yi - 128 = (Z : Int) := by omega
        have y0 : 0 ≤ ri := by omega
        have y5 : ri < 131072 := by omega
        rw [hyi] at hc
        simp only [hri]
        clear hj hY hZ hR hyi hri hb hYb
        go_wp2_with fail
        go_round
        case rel => exact ⟨Z, j + 1, by go_num, by go_num, hy⟩
        case measure => simp [intOf]; omega
      · have hnn := Lib.hid (rs_no2 (least := 65536) hj.out hjm hY hb)
        rcases (show Y.toNat < 128 ∨ (¬ Y.toNat < 128 ∧ 192 ≤ Y.toNat) by omega) with hb1 | ⟨hb1, hb2⟩
        · obtain ⟨yi, hyi⟩ : ∃ z : Int, (Y.toNat : Int) = z := ⟨_, rfl⟩
          have y1 : yi < 128 := by omega
          have y3 : wrap64 yi = yi := by rw [wrap64]; omega
          rw [hyi] at hc
          clear hj hY hb hyi hb1 hYb hR
          go_wp2_with fail
          go_ret2
          rw [hnn.out]
          exact ⟨rfl, rfl⟩
        · obtain ⟨yi, hyi⟩ : ∃ z : Int, (Y.toNat : Int) = z := ⟨_, rfl⟩
          have y1 : ¬ yi < 128 := by omega
          have y2 : 192 ≤ yi := by omega
          have y3 : wrap64 yi = yi := by rw [wrap64]; omega
          rw [hyi] at hc
          clear hj hY hb hyi hb1 hb2 hYb hR
          go_wp2_with fail
          go_ret2
          rw [hnn.out]
          exact ⟨rfl, rfl⟩
    · obtain rfl : j = 3 := by omega
      have he := Lib.hid (rs_end hj.out hjm)
      obtain ⟨RI, hRI⟩ : ∃ z : Int, (R : Int) = z := ⟨_, rfl⟩
      simp only [hRI]
      have hR0 : 0 ≤ RI := by omega
      by_cases hq : 65536 ≤ R ∧ isR R
      · have hnn : Hid (fin 65536 3 (moreR 3 r0 l) = (R, 3 + 1)) := Lib.hid (by rw [he.out]; exact if_pos hq)
        obtain ⟨q1, q2, q3⟩ := hq
        have g1 : ¬ RI < 65536 := by omega
        have g2 : ¬ 1114111 < RI := by omega
        rcases (show RI < 55296 ∨ (¬ RI < 55296 ∧ 57343 < RI) by omega) with g3 | ⟨g3, g4⟩
        all_goals
          first
            | (exfalso; omega)
            | (replace hRI := Lib.hid hRI
               clear hj he hjm q1 q2 q3
               go_wp2_with fail
               go_ret2
               rw [hnn.out, ← hRI.out]
               exact ⟨rfl, rfl⟩)
      · have hnn : Hid (fin 65536 3 (moreR 3 r0 l) = (0, 0)) := Lib.hid (by rw [he.out]; exact if_neg hq)
        have hcase : RI < 65536 ∨ (¬ RI < 65536 ∧ 1114111 < RI) ∨ (¬ RI < 65536 ∧ ¬ 1114111 < RI ∧ 55296 ≤ RI ∧ RI ≤ 57343) := by
          unfold isR at hq
          omega
        rcases hcase with g1 | ⟨g1, g2⟩ | ⟨g1, g2, g3, g4⟩
        all_goals
          clear hj he hjm hq hRI
          go_wp2_with fail
          go_ret2
          rw [hnn.out]
          exact ⟨rfl, rfl⟩
theorem rrune_short3 (a0 : Addr) (n c k : Nat) (X : Int) (h0 : 240 ≤ X) (h1 : X < 248) (hk : k < n) (hn : n ≤ 1000000) (hs : (n : Int) ≤ k + 3) (w : World) (hx : w.cell? (a0.add k) = some (.int .u8 X)) : Calls Tryz.prog 253 #[.slice (some a0) n c, .int .i64 k] w fun e w' => e = .returned (.tuple #[.int .i64 0, .int .i64 0]) ∧ w = w' := by
  have e1 : wrap64 X = X := by rw [wrap64]; omega
  have hk' : (k : Int) < n := by omega
  have e2 : ¬ X < 128 := by omega
  go_enter Tryz.func253, Tryz.ntmps253
  go_wp2_with fail
  go_ret2
  exact ⟨rfl, rfl⟩
theorem rrune_end (ad : Option Addr) (n c k : Nat) (hk : n ≤ k) (w : World) : Calls Tryz.prog 253 #[.slice ad n c, .int .i64 k] w fun e w' => e = .returned (.tuple #[.int .i64 0, .int .i64 0]) ∧ w = w' := by
  have hk' : ¬ (k : Int) < n := by omega
  go_enter Tryz.func253, Tryz.ntmps253
  go_wp2_with fail
  go_ret2
  exact ⟨rfl, rfl⟩
theorem rrune_one (a0 : Addr) (n c k : Nat) (X : Int) (h0 : 0 ≤ X) (h1 : X < 128) (hk : k < n) (w : World) (hx : w.cell? (a0.add k) = some (.int .u8 X)) : Calls Tryz.prog 253 #[.slice (some a0) n c, .int .i64 k] w fun e w' => e = .returned (.tuple #[.int .i64 X, .int .i64 1]) ∧ w = w' := by
  have e1 : wrap64 X = X := by rw [wrap64]; omega
  have hk' : (k : Int) < n := by omega
  go_enter Tryz.func253, Tryz.ntmps253
  go_wp2_with fail
  go_ret2
  exact ⟨rfl, rfl⟩
theorem rrune_odd (a0 : Addr) (n c k : Nat) (X : Int) (h0 : 128 ≤ X) (h1 : X < 256) (h2 : X < 192 ∨ 248 ≤ X) (hk : k < n) (w : World) (hx : w.cell? (a0.add k) = some (.int .u8 X)) : Calls Tryz.prog 253 #[.slice (some a0) n c, .int .i64 k] w fun e w' => e = .returned (.tuple #[.int .i64 0, .int .i64 0]) ∧ w = w' := by
  have e1 : wrap64 X = X := by rw [wrap64]; omega
  have hk' : (k : Int) < n := by omega
  have e2 : ¬ X < 128 := by omega
  rcases h2 with h2 | h2
  all_goals
    go_enter Tryz.func253, Tryz.ntmps253
    go_wp2_with fail
    go_ret2
    exact ⟨rfl, rfl⟩
theorem rrune_any (ad : Option Addr) (n c k : Nat) (l : List UInt8) (hl : l.length = n) (hn : n ≤ 1000000) (w : World) (hS : Sb w ad l) :
    Calls Tryz.prog 253 #[.slice ad n c, .int .i64 k] w fun e w' => e = .returned (.tuple #[.int .i64 ((chr (l.drop k)).1 : Int), .int .i64 ((chr (l.drop k)).2 : Int)]) ∧ w = w' := by
  by_cases hk : k < n
  · obtain ⟨x, hxx⟩ : ∃ x, l[k]? = some x := ⟨_, List.getElem?_eq_getElem (by omega)⟩
    obtain ⟨a0, rfl, hlt, hx⟩ := hS k x hxx
    obtain ⟨rest, hre⟩ : ∃ r, l.drop (k + 1) = r := ⟨_, rfl⟩
    have hrl : k + 1 + rest.length = n := by rw [← hre, List.length_drop]; omega
    have hR : ∀ i y, rest[i]? = some y → w.cell? (a0.add (k + (i + 1))) = some (.int .u8 (y.toNat : Int)) := fun i y hy => by
      rw [← hre, List.getElem?_drop, show k + 1 + i = k + (i + 1) by omega] at hy
      obtain ⟨a1, h1, _, h3⟩ := hS _ _ hy
      injection h1 with h1
      subst h1
      exact h3
    rw [drop_at hxx, hre]
    have hb := x.toNat_lt
    by_cases h0 : x.toNat < 128
    · rw [chr_ascii rest h0]
      exact rrune_one a0 n c k (x.toNat : Int) (by omega) (by omega) hk w hx
    by_cases hc1 : 192 ≤ x.toNat ∧ x.toNat < 224
    · have hcl : cls x.toNat = some (x.toNat % 32, 1, 128) := by unfold cls; rw [if_pos (by omega)]
      by_cases hs : 1 ≤ rest.length
      · rw [chr_cls hcl]
        exact rrune_c1 a0 n c k (x.toNat : Int) rest (x.toNat % 32) (by omega) (by omega) (by omega) hn (by omega) w hx (Lib.hid hR) (Lib.hid hs)
      · rw [chr_short hcl (by omega)]
        exact rrune_short1 a0 n c k (x.toNat : Int) (by omega) (by omega) hk hn (by omega) w hx
    by_cases hc2 : 224 ≤ x.toNat ∧ x.toNat < 240
    · have hcl : cls x.toNat = some (x.toNat % 16, 2, 2048) := by unfold cls; rw [if_neg (by omega), if_pos (by omega)]
      by_cases hs : 2 ≤ rest.length
      · rw [chr_cls hcl]
        exact rrune_c2 a0 n c k (x.toNat : Int) rest (x.toNat % 16) (by omega) (by omega) (by omega) hn (by omega) w hx (Lib.hid hR) (Lib.hid hs)
      · rw [chr_short hcl (by omega)]
        exact rrune_short2 a0 n c k (x.toNat : Int) (by omega) (by omega) hk hn (by omega) w hx
    by_cases hc3 : 240 ≤ x.toNat ∧ x.toNat < 248
    · have hcl : cls x.toNat = some (x.toNat % 8, 3, 65536) := by unfold cls; rw [if_neg (by omega), if_neg (by omega), if_pos (by omega)]
      by_cases hs : 3 ≤ rest.length
      · rw [chr_cls hcl]
        exact rrune_c3 a0 n c k (x.toNat : Int) rest (x.toNat % 8) (by omega) (by omega) (by omega) hn (by omega) w hx (Lib.hid hR) (Lib.hid hs)
      · rw [chr_short hcl (by omega)]
        exact rrune_short3 a0 n c k (x.toNat : Int) (by omega) (by omega) hk hn (by omega) w hx
    have hcl : cls x.toNat = none := by unfold cls; rw [if_neg hc1, if_neg hc2, if_neg hc3]
    rw [chr_noCls h0 hcl]
    exact rrune_odd a0 n c k (x.toNat : Int) (by omega) (by omega) (by omega) hk w hx
  · rw [List.drop_eq_nil_of_le (by omega)]
    exact rrune_end ad n c k (by omega) w
theorem rcheck_any (ad : Option Addr) (n c : Nat) (l : List UInt8) (hl : l.length = n) (hn : n ≤ 1000000) (w : World) (hS : Sb w ad l) :
    Calls Tryz.prog 189 #[.slice ad n c] w fun e w' => e = .returned (.tuple #[.int .i64 (lookL l : Int), .bool (decide (Wh l))]) ∧ w = w' := by
  have RU := Lib.hid (fun k => rrune_any ad n c k l hl hn w hS)
  have hle := lookL_le l
  obtain ⟨B, hB⟩ : ∃ b, decide (Wh l) = b := ⟨_, rfl⟩
  have HB : Hid ((lookL l = n → B = true) ∧ (lookL l ≠ n → B = false)) := Lib.hid (by
    rw [← hB]
    refine ⟨fun h => decide_eq_true (show lookL l = l.length by omega), fun h => decide_eq_false (fun e => h (by have h2 : lookL l = l.length := e; omega))⟩)
  rw [hB]
  have HL := Lib.hid (rfl : lookL l = lookL l)
  generalize hR : lookL l = R at *
  have HR := Lib.hid hR
  have HN := Lib.hid hl
  clear hR hS hl HL hB
  go_enter Tryz.func189, Tryz.ntmps189
  go_wp2_with fail
  go_loop [4] (fun x => ∃ k : Nat, k ≤ n ∧ x = .int .i64 k ∧ Hid (k + lookL (l.drop k) = R)) (fun x => n - (intOf x).toNat)
  case atStart => exact ⟨0, by omega, rfl, Lib.hid (by rw [List.drop_zero, Nat.zero_add]; exact HR.out)⟩
  case round =>
    obtain ⟨k, hk, rfl, HV⟩ := hrel
    by_cases hkn : k < n
    · have hch := (chr_le (l.drop k)).1
      rw [List.length_drop, HN.out] at hch
      have H1 := RU.out k
      by_cases h0 : (chr (l.drop k)).2 = 0
      · have he : R = k := by rw [← HV.out, lookL_stop h0]; rfl
        subst he
        have hB2 := HB.out.2 (by omega)
        subst hB2
        rw [h0] at H1
        have H1 := Lib.hid H1
        clear h0 hch
        go_wp2_with fail
        with_reducible refine (H1.out).mono ?_
        rintro e w' ⟨rfl, rfl⟩
        go_wp2_with fail
        go_ret2
        exact ⟨rfl, rfl⟩
      · have hst := lookL_step h0
        obtain ⟨m, hm⟩ : ∃ m, (chr (l.drop k)).2 = m := ⟨_, rfl⟩
        obtain ⟨q, hq⟩ : ∃ m, (chr (l.drop k)).1 = m := ⟨_, rfl⟩
        rw [hm, hq] at H1
        rw [hm] at hst hch h0
        have H1 := Lib.hid H1
        have HV2 : Hid (k + m + lookL (l.drop (k + m)) = R) := Lib.hid (by rw [← HV.out, hst, List.drop_drop]; omega)
        have hm0 : ¬ (m : Int) = 0 := by omega
        clear hst hm hq
        go_wp2_with fail
        with_reducible refine (H1.out).mono ?_
        rintro e w' ⟨rfl, rfl⟩
        go_wp2_with fail
        go_round
        case rel => exact ⟨k + m, by omega, by go_num, HV2⟩
        case measure => simp [intOf]; omega
    · have he : R = k := by rw [← HV.out, List.drop_eq_nil_of_le (by have := HN.out; omega)]; rfl
      have hkn2 : k = n := by omega
      have hB2 := HB.out.1 (by omega)
      subst hB2
      subst he
      subst hkn2
      go_wp2_with fail
      go_ret2
      exact ⟨rfl, rfl⟩
end
section
open Go.RowKit
abbrev KL := List (List UInt8 × Ro)
def oS (t : List UInt8) : Own := { kind := 2, text := t }
def oD : Own := { kind := 3 }
def oA : Own := { kind := 4 }
def oI : Own := { kind := 16, bits := 1 }
def vS (t : List UInt8) : Ro := .mk (oS t) []
def vD (l : KL) : Ro := .mk oD l
def vA (l : KL) : Ro := .mk oA l
def vI : Ro := .mk oI []
def Leaf (t : Ro) : Prop := (∃ x, x.length ≤ 200 ∧ t = vS x) ∨ t = vI
def Dk : Nat → Ro → Prop
  | 0, t => Leaf t
  | k + 1, t => Leaf t ∨ ∃ l, (t = vD l ∨ t = vA l) ∧ l.length ≤ 20 ∧ ∀ x ∈ l, x.1.length ≤ 200 ∧ Dk k x.2
theorem Dk.more : ∀ {k k' : Nat} {t : Ro}, k ≤ k' → Dk k t → Dk k' t
  | 0, 0, _, _, h => h
  | 0, _ + 1, _, _, h => .inl h
  | k + 1, 0, _, h, _ => by omega
  | k + 1, k' + 1, _, hk, h => by
    rcases h with h | ⟨l, h1, h2, h3⟩
    · exact .inl h
    · exact .inr ⟨l, h1, h2, fun x hx => ⟨(h3 x hx).1, Dk.more (by omega) (h3 x hx).2⟩⟩
def Nm (l : List UInt8) : Prop := Wh l ∧ (0 : UInt8) ∉ l
instance (l : List UInt8) : Decidable (Nm l) := by unfold Nm; infer_instance
def okT : Nat → List UInt8 → Ro → Bool
  | 0, nm, t => decide (Nm nm) && decide (Wh t.o.text)
  | k + 1, nm, t => decide (Nm nm) && decide (Wh t.o.text) && t.kids.all fun x => okT k x.1 x.2
def hexD (n : Nat) : UInt8 := if n < 10 then (48 + n).toUInt8 else (87 + n).toUInt8
def escTo (c : UInt8) : Option UInt8 := if c = 34 then some 34 else if c = 92 then some 92 else if c = 8 then some 98 else if c = 12 then some 102 else if c = 10 then some 110 else if c = 13 then some 114 else if c = 9 then some 116 else none
def esc (c : UInt8) : List UInt8 := match escTo c with
  | some d => [92, d]
  | none => if c.toNat < 32 then [92, 117, 48, 48, hexD (c.toNat / 16), hexD (c.toNat % 16)] else [c]
def escs (t : List UInt8) : List UInt8 := t.flatMap esc
def quote (t : List UInt8) : List UInt8 := 34 :: (escs t ++ [34])
def pS (t : List UInt8) : Own := { kind := 5, text := t }
def pN (t : List UInt8) : Own := { kind := 4, text := t }
def pA : Own := { kind := 6 }
def pO : Own := { kind := 7 }
def jS (t : List UInt8) : Ro := .mk (pS t) []
def jN (t : List UInt8) : Ro := .mk (pN t) []
def jA (l : KL) : Ro := .mk pA l
def jO (l : KL) : Ro := .mk pO l
def nDoc : List UInt8 := [36, 100, 111, 99, 117, 109, 101, 110, 116]
def nArr : List UInt8 := [36, 97, 114, 114, 97, 121]
def nInt : List UInt8 := [36, 110, 117, 109, 98, 101, 114, 73, 110, 116]
def dgs (n : Nat) : List UInt8 := if n < 10 then [(48 + n).toUInt8] else [(48 + n / 10).toUInt8, (48 + n % 10).toUInt8]
def reg : Nat → KL → Bool
  | _, [] => true
  | n, x :: l => (x.1 == dgs n) && reg (n + 1) l
def dol (l : KL) : Bool := match l with
  | (36 :: _, _) :: _ => true
  | _ => false
def wrapD (b : Bool) (j : Ro) : Ro := if b then jO [(nDoc, j)] else j
def docJ (i : Ro) : Nat → Ro → Ro
  | 0, t => if t.o.kind = 16 then i else jS t.o.text
  | k + 1, t =>
    if t.o.kind = 3 then wrapD (dol t.kids) (jO (t.kids.map fun x => (x.1, docJ i k x.2)))
    else if t.o.kind = 4 then (if reg 0 t.kids then jA (t.kids.map fun x => ([], docJ i k x.2)) else jO [(nArr, jO (t.kids.map fun x => (x.1, docJ i k x.2)))])
    else if t.o.kind = 16 then i else jS t.o.text
def joinC : List (List UInt8) → List UInt8
  | [] => []
  | x :: l => x ++ l.flatMap (fun y => 44 :: y)
theorem joinC_snoc (l : List (List UInt8)) (x : List UInt8) (h : l ≠ []) : joinC (l ++ [x]) = joinC l ++ 44 :: x := by
  cases l with
  | nil => exact absurd rfl h
  | cons a l => simp [joinC]
def prJ : Nat → Ro → List UInt8
  | 0, t => if t.o.kind = 4 then t.o.text else if t.o.kind = 5 then quote t.o.text else if t.o.kind = 6 then [91, 93] else [123, 125]
  | k + 1, t => if t.o.kind = 4 then t.o.text else if t.o.kind = 5 then quote t.o.text
    else if t.o.kind = 6 then 91 :: (joinC (t.kids.map fun x => prJ k x.2) ++ [93])
    else 123 :: (joinC (t.kids.map fun x => quote x.1 ++ 58 :: prJ k x.2) ++ [125])
def JLeaf (t : Ro) : Prop := (∃ x, x.length ≤ 200 ∧ Wh x ∧ t = jS x) ∨ t = jN [49]
def Jk : Nat → Ro → Prop
  | 0, t => JLeaf t
  | k + 1, t => JLeaf t ∨ ∃ l, l.length ≤ 20 ∧ ((t = jO l ∧ ∀ x ∈ l, x.1.length ≤ 200 ∧ Wh x.1 ∧ Jk k x.2) ∨ (t = jA l ∧ ∀ x ∈ l, x.1 = [] ∧ Jk k x.2))
theorem Jk.more : ∀ {k k' : Nat} {t : Ro}, k ≤ k' → Jk k t → Jk k' t
  | 0, 0, _, _, h => h
  | 0, _ + 1, _, _, h => .inl h
  | k + 1, 0, _, h, _ => by omega
  | k + 1, k' + 1, _, hk, h => by
    rcases h with h | ⟨l, h1, h2 | h2⟩
    · exact .inl h
    · exact .inr ⟨l, h1, .inl ⟨h2.1, fun x hx => ⟨(h2.2 x hx).1, (h2.2 x hx).2.1, Jk.more (by omega) (h2.2 x hx).2.2⟩⟩⟩
    · exact .inr ⟨l, h1, .inr ⟨h2.1, fun x hx => ⟨(h2.2 x hx).1, Jk.more (by omega) (h2.2 x hx).2⟩⟩⟩
def szR : Nat → Ro → Nat
  | 0, t => if t.o.kind = 16 then 4 else t.o.text.length + 5
  | k + 1, t => if t.o.kind = 16 then 4 else if t.o.kind = 2 then t.o.text.length + 5 else 5 + (t.kids.map fun x => x.1.length + 2 + szR k x.2).sum
def dpR : Nat → Ro → Nat
  | 0, _ => 0
  | k + 1, t => if t.o.kind = 3 ∨ t.o.kind = 4 then 1 + (t.kids.map fun x => dpR k x.2).foldl max 0 else 0
end
section
open Go.RowKit
theorem wh_nDoc : Wh nDoc := by decide
theorem wh_nArr : Wh nArr := by decide
theorem wh_nInt : Wh nInt := by decide
theorem docJ_vS (i : Ro) (k : Nat) (x : List UInt8) : docJ i k (vS x) = jS x := by cases k <;> simp [docJ, vS, oS]
theorem docJ_vI (i : Ro) (k : Nat) : docJ i k vI = i := by cases k <;> simp [docJ, vI, oI]
theorem docJ_vD (i : Ro) (k : Nat) (l : KL) : docJ i (k + 1) (vD l) = wrapD (dol l) (jO (l.map fun x => (x.1, docJ i k x.2))) := by simp [docJ, vD, oD]
theorem docJ_vA (i : Ro) (k : Nat) (l : KL) : docJ i (k + 1) (vA l) = if reg 0 l then jA (l.map fun x => ([], docJ i k x.2)) else jO [(nArr, jO (l.map fun x => (x.1, docJ i k x.2)))] := rfl
theorem jk_obj {k : Nat} {l : KL} (hl : l.length ≤ 20) (h : ∀ x ∈ l, x.1.length ≤ 200 ∧ Wh x.1 ∧ Jk k x.2) : Jk (k + 1) (jO l) := .inr ⟨l, hl, .inl ⟨rfl, h⟩⟩
theorem jk_one {k : Nat} {nm : List UInt8} {j : Ro} (h1 : nm.length ≤ 200) (h2 : Wh nm) (h : Jk k j) : Jk (k + 1) (jO [(nm, j)]) :=
  jk_obj (by simp) fun x hx => by
    rcases List.mem_singleton.1 hx with rfl
    exact ⟨h1, h2, h⟩
theorem okT_vS (k : Nat) (nm x : List UInt8) : okT k nm (vS x) = (decide (Nm nm) && decide (Wh x)) := by
  cases k with
  | zero => rfl
  | succ k =>
    show ((decide (Nm nm) && decide (Wh x)) && List.all [] _) = _
    rw [List.all_nil, Bool.and_true]
theorem okT_vI (k : Nat) (nm : List UInt8) : okT k nm vI = decide (Nm nm) := by
  have h0 : decide (Wh ([] : List UInt8)) = true := by decide
  cases k with
  | zero =>
    show (decide (Nm nm) && decide (Wh ([] : List UInt8))) = _
    rw [h0, Bool.and_true]
  | succ k =>
    show ((decide (Nm nm) && decide (Wh ([] : List UInt8))) && List.all [] _) = _
    rw [h0, List.all_nil, Bool.and_true, Bool.and_true]
theorem okT_v (k : Nat) (nm : List UInt8) (l : KL) {t : Ro} (ht : t = vD l ∨ t = vA l) : okT (k + 1) nm t = (decide (Nm nm) && l.all fun x => okT k x.1 x.2) := by
  have h0 : decide (Wh ([] : List UInt8)) = true := by decide
  rcases ht with rfl | rfl
  all_goals
    show ((decide (Nm nm) && decide (Wh ([] : List UInt8))) && l.all fun x => okT k x.1 x.2) = _
    rw [h0, Bool.and_true]
theorem okT_at {k : Nat} {nm : List UInt8} {t : Ro} (h : okT (k + 1) nm t = true) {x : List UInt8 × Ro} (hx : x ∈ t.kids) : okT k x.1 x.2 = true := by
  simp only [okT, Bool.and_eq_true] at h
  exact List.all_eq_true.1 h.2 x hx
theorem okT_nm {k : Nat} {nm : List UInt8} {t : Ro} (h : okT k nm t = true) : Nm nm := by
  cases k <;> simp only [okT, Bool.and_eq_true, decide_eq_true_eq] at h
  · exact h.1
  · exact h.1.1
theorem okT_text {k : Nat} {nm : List UInt8} {t : Ro} (h : okT k nm t = true) : Wh t.o.text := by
  cases k <;> simp only [okT, Bool.and_eq_true, decide_eq_true_eq] at h
  · exact h.2
  · exact h.1.2
def Sk : Nat → Ro → Prop
  | 0, t => ∃ x, t = vS x
  | k + 1, t => (∃ x, t = vS x) ∨ ∃ l, (t = vD l ∨ t = vA l) ∧ ∀ x ∈ l, Sk k x.2
theorem docJ_str (i i' : Ro) : ∀ {k : Nat} {t : Ro}, Sk k t → docJ i k t = docJ i' k t
  | 0, t, ⟨x, h⟩ => by subst h; rw [docJ_vS, docJ_vS]
  | k + 1, t, h => by
    rcases h with ⟨x, rfl⟩ | ⟨l, rfl | rfl, h⟩
    · rw [docJ_vS, docJ_vS]
    · rw [docJ_vD, docJ_vD, show (l.map fun x => (x.1, docJ i k x.2)) = l.map fun x => (x.1, docJ i' k x.2) from List.map_congr_left fun x hx => by rw [docJ_str i i' (h x hx)]]
    · rw [docJ_vA, docJ_vA, show (l.map fun x => (x.1, docJ i k x.2)) = l.map fun x => (x.1, docJ i' k x.2) from List.map_congr_left fun x hx => by rw [docJ_str i i' (h x hx)],
        show (l.map fun x => (([] : List UInt8), docJ i k x.2)) = l.map fun x => ([], docJ i' k x.2) from List.map_congr_left fun x hx => by rw [docJ_str i i' (h x hx)]]
end
end Go.Proofs.YtihnfhhopldllaaGreatDoor
