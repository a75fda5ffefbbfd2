/- Parts of the proof of TopLooks: U1. No condition. -/
import Derived.Test.YtihnfhhopldllaaGreatDoorJ1
namespace Go.Proofs.YtihnfhhopldllaaGreatDoor
set_option linter.unusedSimpArgs false
set_option linter.unusedVariables false
set_option maxHeartbeats 6400000
set_option maxRecDepth 100000
section
open Go.RowKit
def Sb (w : World) (ad : Option Addr) (l : List UInt8) : Prop := ∀ i x, l[i]? = some x → ∃ a, ad = some a ∧ a.block < w.heap.size ∧ w.cell? (a.add i) = some (.int .u8 (x.toNat : Int))
theorem cont_bits (x : UInt8) : ((bits .and .u8 (x.toNat : Int) 192) != 128) = !decide (128 ≤ x.toNat ∧ x.toNat < 192) := by
  have e : ∀ n : Fin 256, ((((n.val &&& 192 : Nat)) : Int) != 128) = !decide (128 ≤ n.val ∧ n.val < 192) := by decide
  have h := x.toNat_lt
  rw [show (192 : Int) = ((192 : Nat) : Int) from rfl, u8_and_nat x.toNat 192 h (by decide)]
  exact e ⟨x.toNat, h⟩
theorem and_31 (x : Int) (h0 : 0 ≤ x) (h1 : x < 256) : bits .and .i64 x 31 = x % 32 := bits_mask .i64 8 (by decide) (fun n h0 h1 => by rw [IntKind.wrap_i64]; omega) 5 (by decide) x h0 h1
theorem and_15 (x : Int) (h0 : 0 ≤ x) (h1 : x < 256) : bits .and .i64 x 15 = x % 16 := bits_mask .i64 8 (by decide) (fun n h0 h1 => by rw [IntKind.wrap_i64]; omega) 4 (by decide) x h0 h1
theorem and_7 (x : Int) (h0 : 0 ≤ x) (h1 : x < 256) : bits .and .i64 x 7 = x % 8 := bits_mask .i64 8 (by decide) (fun n h0 h1 => by rw [IntKind.wrap_i64]; omega) 3 (by decide) x h0 h1
theorem and_63 (Y : UInt8) : bits .and .u8 (Y.toNat : Int) 63 = ((Y.toNat % 64 : Nat) : Int) := by
  have h := Y.toNat_lt
  have e := u8_and63 (x := (Y.toNat : Int)) (by omega) (by omega)
  rw [e]; omega
theorem shl_or (R Y Z : Nat) (hR : R < 8388608) (e : R * 64 + Y % 64 = Z) : bits .or .i64 ((R : Int) * 64) ((Y : Int) % 64) = (Z : Int) := by
  rw [bits_join .i64 40 (by decide) (fun n h0 h1 => by rw [IntKind.wrap_i64]; omega) 6 ((R : Int) * 64) ((Y : Int) % 64) (by omega) (by omega) (by omega) (by omega) (by omega) (by omega)]
  omega
def fin (least m : Nat) (r : Option Nat) : Nat × Nat := match r with
  | none => (0, 0)
  | some r => if least ≤ r ∧ isR r then (r, m + 1) else (0, 0)
theorem add_s (a : Addr) (k i : Nat) : a.add (k + (i + 1)) = ⟨a.block, a.off + (k + (i + 1)), none⟩ := by unfold Addr.add; rw [if_neg (by omega)]
theorem fin_lt {least m R : Nat} (h : R < least) : fin least m (some R) = (0, 0) := if_neg (by omega)
theorem fin_no {least m R : Nat} (h : ¬ isR R) : fin least m (some R) = (0, 0) := if_neg (fun e => h e.2)
theorem fin_ok {least m R : Nat} (h1 : ¬ R < least) (h : isR R) : fin least m (some R) = (R, m + 1) := if_pos ⟨by omega, h⟩
def RS (l : List UInt8) (r0 m R j : Nat) : Prop := j ≤ m ∧ moreR (m - j) R (l.drop j) = moreR m r0 l ∧ ((j = 0 ∧ R < 32) ∨ (j = 1 ∧ R < 2048) ∨ (j = 2 ∧ R < 131072) ∨ (j = 3 ∧ R < 8388608))
theorem drop_at {l : List UInt8} {j : Nat} {Y : UInt8} (h : l[j]? = some Y) : l.drop j = Y :: l.drop (j + 1) := by
  obtain ⟨h1, h2⟩ := List.getElem?_eq_some_iff.1 h
  rw [List.drop_eq_getElem_cons h1, h2]
theorem rs_no' {l : List UInt8} {r0 m R j : Nat} {Y : UInt8} (h : RS l r0 m R j) (hj : j < m) (hY : l[j]? = some Y) (hb : ((bits .and .u8 (Y.toNat : Int) 192) != 128) = true) : moreR m r0 l = none := by
  obtain ⟨h1, h2, h3⟩ := h
  rw [← h2, drop_at hY, show m - j = (m - j - 1) + 1 by omega, moreR, if_neg]
  intro h
  rw [cont_bits, decide_eq_true h] at hb
  cases hb
theorem rs_no {least : Nat} {l : List UInt8} {r0 m R j : Nat} {Y : UInt8} (h : RS l r0 m R j) (hj : j < m) (hY : l[j]? = some Y) (hb : ((bits .and .u8 (Y.toNat : Int) 192) != 128) = true) : fin least m (moreR m r0 l) = (0, 0) := by rw [rs_no' h hj hY hb]; rfl
theorem rs_yes {l : List UInt8} {r0 m R j : Nat} {Y : UInt8} (h : RS l r0 m R j) (hm : m ≤ 3) (hj : j < m) (hY : l[j]? = some Y) (hb : ((bits .and .u8 (Y.toNat : Int) 192) != 128) = false) : RS l r0 m (R * 64 + Y.toNat % 64) (j + 1) := by
  obtain ⟨h1, h2, h3⟩ := h
  have hc : 128 ≤ Y.toNat ∧ Y.toNat < 192 := by
    rw [cont_bits] at hb
    simpa using hb
  refine ⟨by omega, ?_, by omega⟩
  rw [← h2, drop_at hY, show m - j = (m - (j + 1)) + 1 by omega, moreR, if_pos hc]
theorem rs_end {l : List UInt8} {r0 m R j : Nat} (h : RS l r0 m R j) (hj : ¬ j < m) : moreR m r0 l = some R := by
  obtain ⟨h1, h2, h3⟩ := h
  rw [← h2, show m - j = 0 by omega, moreR]
theorem rs_start (l : List UInt8) (r0 m : Nat) (h : r0 < 32) : RS l r0 m r0 0 := ⟨Nat.zero_le _, rfl, .inl ⟨rfl, h⟩⟩
theorem rune_c1 (a0 : Addr) (n c k : Nat) (X : Int) (l : List UInt8) (r0 : Nat) (h1 : 192 ≤ X) (h2 : X < 224) (hr : X % 32 = r0) (hn : n ≤ 1000000) (hk : (k : Int) + 1 < n) (w : World) (hx : w.cell? (a0.add k) = some (.int .u8 X)) (hS : Hid (∀ i y, l[i]? = some y → w.cell? (a0.add (k + (i + 1))) = some (.int .u8 (y.toNat : Int)))) (hl : Hid (1 ≤ l.length)) :
    Calls Tryz.prog 254 #[.slice (some a0) n c, .int .i64 k] w fun e w' => e = .returned (.tuple #[.int .i64 ((fin 128 1 (moreR 1 r0 l)).1 : Int), .int .i64 ((fin 128 1 (moreR 1 r0 l)).2 : Int)]) ∧ w = w' := by
  have e1 : wrap64 X = X := by rw [wrap64]; omega
  have e2 : ¬ X < 128 := by omega
  have e3 : bits .and .i64 X 31 = (r0 : Int) := by rw [and_31 X (by omega) (by omega), hr]
  have hkn : (k : Int) < n := by omega
  go_enter Tryz.func254, Tryz.ntmps254
  go_wp2_with fail
  refine wp_scope_all (fun l' a' w' => match l' with
    | 0 => w' = w ∧ Hid (fin 128 1 (moreR 1 r0 l) = (0, 0)) ∧ Fr a' (fun f => #[.slice (some a0) n c, .int .i64 k, f 2, f 3, f 4, f 5, f 6, f 7, f 8, f 9, f 10, f 11, f 12, f 13, f 14, f 15, f 16, f 17, f 18, f 19, f 20, f 21, f 22, f 23, f 24, f 25, f 26, f 27, f 28, f 29, f 30, f 31, f 32, f 33, f 34, f 35, f 36, f 37, f 38, f 39, f 40, f 41, f 42, f 43, f 44, f 45, f 46, f 47, f 48, f 49, f 50, f 51, f 52, f 53, f 54, f 55, f 56, f 57, f 58, f 59, f 60, f 61, f 62, f 63, f 64, f 65, f 66, f 67, f 68, f 69, f 70, f 71, f 72, f 73, f 74, f 75, f 76, f 77, f 78, f 79, f 80, f 81, f 82, f 83, f 84, f 85, f 86, f 87, f 88, f 89, f 90, f 91, f 92, f 93, f 94, f 95])
    | 1 => w' = w ∧ ∃ R j : Nat, Hid (RS l r0 1 R j) ∧ Fr a' (fun f => #[.slice (some a0) n c, .int .i64 k, f 2, f 3, .int .i64 R, f 5, f 6, .int .i64 1, .int .i64 128, .int .i64 ((j : Int) + 1), f 10, f 11, f 12, f 13, f 14, f 15, f 16, f 17, f 18, f 19, f 20, f 21, f 22, f 23, f 24, f 25, f 26, f 27, f 28, f 29, f 30, f 31, f 32, f 33, f 34, f 35, f 36, f 37, f 38, f 39, f 40, f 41, f 42, f 43, f 44, f 45, f 46, f 47, f 48, f 49, f 50, f 51, f 52, f 53, f 54, f 55, f 56, f 57, f 58, f 59, f 60, f 61, f 62, f 63, f 64, f 65, f 66, f 67, f 68, f 69, f 70, f 71, f 72, f 73, f 74, f 75, f 76, f 77, f 78, f 79, f 80, f 81, f 82, f 83, f 84, f 85, f 86, f 87, f 88, f 89, f 90, f 91, f 92, f 93, f 94, f 95])
    | _ => False) (fun l' a' _ => if l' = 0 then 0 else 10 - (intOf (a'.tmps.getD 9 undef)).toNat) ?first ?pass
  case first =>
    obtain ⟨Y, hY⟩ : ∃ Y, l[0]? = some Y := ⟨_, List.getElem?_eq_getElem (by have := hl.out; omega)⟩
    have hc : w.cell? ⟨a0.block, a0.off + (k + 1), none⟩ = some (.int .u8 (Y.toNat : Int)) := (add_s a0 k 0) ▸ hS.out 0 Y hY
    have hj := rs_start l r0 1 (by omega)
    cases hb : ((bits .and .u8 (Y.toNat : Int) 192) != 128)
    · have hy := Lib.hid (rs_yes hj (by decide) (by decide) hY hb)
      have eY := and_63 Y
      obtain ⟨Z, hZ⟩ : ∃ Z, r0 * 64 + Y.toNat % 64 = Z := ⟨_, rfl⟩
      rw [hZ] at hy
      have eO := shl_or r0 Y.toNat Z (by omega) hZ
      clear hZ
      clear hj hY
      go_wp2_with fail
      go_step3
      go_wp2_with fail
      go_step3
      exact ⟨rfl, Z, 1, hy, rfl⟩
    · have hnn := Lib.hid (rs_no (least := 128) hj (by decide) hY hb)
      clear hj hY
      go_wp2_with fail
      go_step3
      go_wp2_with fail
      go_step3
      exact ⟨rfl, hnn, rfl⟩
  case pass =>
    intro l' a' w' hJ
    match l', hJ with
    | 0, hJ =>
      obtain ⟨rfl, hn, hf⟩ := hJ
      obtain ⟨f, rfl⟩ := hf.ex
      refine ⟨_, rfl, ?_⟩
      dsimp only
      go_wp2_with fail
      refine jumps_ret ?_
      go_ret2
      rw [hn.out]
      exact ⟨rfl, rfl⟩
    | 1, hJ =>
      obtain ⟨rfl, R, j, hj, hf⟩ := hJ
      obtain ⟨f, rfl⟩ := hf.ex
      refine ⟨_, rfl, ?_⟩
      have hj3 : j ≤ 1 := hj.out.1
      by_cases hjm : j < 1
      · obtain ⟨Y, hY⟩ : ∃ Y, l[j]? = some Y := ⟨_, List.getElem?_eq_getElem (by have := hl.out; omega)⟩
        have hc := hS.out j Y hY
        have hR : R < 131072 := by have := hj.out.2.2; omega
        cases hb : ((bits .and .u8 (Y.toNat : Int) 192) != 128)
        · have hy := Lib.hid (rs_yes hj.out (by decide) hjm hY hb)
          have eY := and_63 Y
          obtain ⟨Z, hZ⟩ : ∃ Z, R * 64 + Y.toNat % 64 = Z := ⟨_, rfl⟩
          rw [hZ] at hy
          have eO := shl_or R Y.toNat Z (by omega) hZ
          clear hZ
          clear hj hY
          dsimp only
          go_wp2_with fail
          go_step3
          refine ⟨⟨rfl, Z, j + 1, hy, rfl⟩, ?_⟩
          show 10 - ((((j + 1 : Nat) : Int)) + 1).toNat < 10 - ((j : Int) + 1).toNat
          omega
        · have hnn := Lib.hid (rs_no (least := 128) hj.out hjm hY hb)
          clear hj hY
          dsimp only
          go_wp2_with fail
          go_step3
          refine ⟨⟨rfl, hnn, rfl⟩, ?_⟩
          show 0 < 10 - ((j : Int) + 1).toNat
          omega
      · obtain rfl : j = 1 := by omega
        have he := Lib.hid (rs_end hj.out hjm)
        have hR : R < 8388608 := by have := hj.out.2.2; omega
        obtain ⟨RI, hRI⟩ : ∃ z : Int, (R : Int) = z := ⟨_, rfl⟩
        dsimp only
        simp only [hRI]
        by_cases ht : R < 128
        · have hnn : Hid (fin 128 1 (moreR 1 r0 l) = (0, 0)) := Lib.hid (by rw [he.out]; exact fin_lt ht)
          have htI : RI < 128 := by omega
          clear hj he hjm hR ht hRI
          go_wp2_with fail
          go_step3
          refine ⟨⟨rfl, hnn, rfl⟩, ?_⟩
          show 0 < 10 - ((1 : Int) + 1).toNat
          decide
        · have htI : ¬ RI < 128 := by omega
          have hI := is_any RI w'
          cases hb : decide (0 ≤ RI ∧ RI ≤ 1114111 ∧ (RI < 55296 ∨ 57343 < RI))
          · rw [hb] at hI
            have hnn : Hid (fin 128 1 (moreR 1 r0 l) = (0, 0)) := Lib.hid (by rw [he.out]; exact fin_no (fun h => by have := of_decide_eq_false hb; unfold isR at h; omega))
            have hI := Lib.hid hI
            clear hb hj he hjm hR ht hRI
            go_wp2_with fail
            with_reducible refine (hI.out).mono ?_
            rintro e w'' ⟨rfl, rfl⟩
            go_wp2_with fail
            go_step3
            refine ⟨⟨rfl, hnn, rfl⟩, ?_⟩
            show 0 < 10 - ((1 : Int) + 1).toNat
            decide
          · rw [hb] at hI
            have hnn : Hid (fin 128 1 (moreR 1 r0 l) = (R, 1 + 1)) := Lib.hid (by rw [he.out]; exact fin_ok ht (by have := of_decide_eq_true hb; unfold isR; omega))
            have hI := Lib.hid hI
            replace hRI := Lib.hid hRI
            clear hb hj he hjm hR ht
            go_wp2_with fail
            with_reducible refine (hI.out).mono ?_
            rintro e w'' ⟨rfl, rfl⟩
            go_wp2_with fail
            refine jumps_ret ?_
            go_ret2
            rw [hnn.out, ← hRI.out]
            exact ⟨rfl, rfl⟩
theorem rune_c2 (a0 : Addr) (n c k : Nat) (X : Int) (l : List UInt8) (r0 : Nat) (h1 : 224 ≤ X) (h2 : X < 240) (hr : X % 16 = r0) (hn : n ≤ 1000000) (hk : (k : Int) + 2 < n) (w : World) (hx : w.cell? (a0.add k) = some (.int .u8 X)) (hS : Hid (∀ i y, l[i]? = some y → w.cell? (a0.add (k + (i + 1))) = some (.int .u8 (y.toNat : Int)))) (hl : Hid (2 ≤ l.length)) :
    Calls Tryz.prog 254 #[.slice (some a0) n c, .int .i64 k] w fun e w' => e = .returned (.tuple #[.int .i64 ((fin 2048 2 (moreR 2 r0 l)).1 : Int), .int .i64 ((fin 2048 2 (moreR 2 r0 l)).2 : Int)]) ∧ w = w' := by
  have e1 : wrap64 X = X := by rw [wrap64]; omega
  have e2 : ¬ X < 128 := by omega
  have e3 : bits .and .i64 X 15 = (r0 : Int) := by rw [and_15 X (by omega) (by omega), hr]
  have hkn : (k : Int) < n := by omega
  go_enter Tryz.func254, Tryz.ntmps254
  go_wp2_with fail
  refine wp_scope_all (fun l' a' w' => match l' with
    | 0 => w' = w ∧ Hid (fin 2048 2 (moreR 2 r0 l) = (0, 0)) ∧ Fr a' (fun f => #[.slice (some a0) n c, .int .i64 k, f 2, f 3, f 4, f 5, f 6, f 7, f 8, f 9, f 10, f 11, f 12, f 13, f 14, f 15, f 16, f 17, f 18, f 19, f 20, f 21, f 22, f 23, f 24, f 25, f 26, f 27, f 28, f 29, f 30, f 31, f 32, f 33, f 34, f 35, f 36, f 37, f 38, f 39, f 40, f 41, f 42, f 43, f 44, f 45, f 46, f 47, f 48, f 49, f 50, f 51, f 52, f 53, f 54, f 55, f 56, f 57, f 58, f 59, f 60, f 61, f 62, f 63, f 64, f 65, f 66, f 67, f 68, f 69, f 70, f 71, f 72, f 73, f 74, f 75, f 76, f 77, f 78, f 79, f 80, f 81, f 82, f 83, f 84, f 85, f 86, f 87, f 88, f 89, f 90, f 91, f 92, f 93, f 94, f 95])
    | 1 => w' = w ∧ ∃ R j : Nat, Hid (RS l r0 2 R j) ∧ Fr a' (fun f => #[.slice (some a0) n c, .int .i64 k, f 2, f 3, .int .i64 R, f 5, f 6, .int .i64 2, .int .i64 2048, .int .i64 ((j : Int) + 1), f 10, f 11, f 12, f 13, f 14, f 15, f 16, f 17, f 18, f 19, f 20, f 21, f 22, f 23, f 24, f 25, f 26, f 27, f 28, f 29, f 30, f 31, f 32, f 33, f 34, f 35, f 36, f 37, f 38, f 39, f 40, f 41, f 42, f 43, f 44, f 45, f 46, f 47, f 48, f 49, f 50, f 51, f 52, f 53, f 54, f 55, f 56, f 57, f 58, f 59, f 60, f 61, f 62, f 63, f 64, f 65, f 66, f 67, f 68, f 69, f 70, f 71, f 72, f 73, f 74, f 75, f 76, f 77, f 78, f 79, f 80, f 81, f 82, f 83, f 84, f 85, f 86, f 87, f 88, f 89, f 90, f 91, f 92, f 93, f 94, f 95])
    | _ => False) (fun l' a' _ => if l' = 0 then 0 else 10 - (intOf (a'.tmps.getD 9 undef)).toNat) ?first ?pass
  case first =>
    obtain ⟨Y, hY⟩ : ∃ Y, l[0]? = some Y := ⟨_, List.getElem?_eq_getElem (by have := hl.out; omega)⟩
    have hc : w.cell? ⟨a0.block, a0.off + (k + 1), none⟩ = some (.int .u8 (Y.toNat : Int)) := (add_s a0 k 0) ▸ hS.out 0 Y hY
    have hj := rs_start l r0 2 (by omega)
    cases hb : ((bits .and .u8 (Y.toNat : Int) 192) != 128)
    · have hy := Lib.hid (rs_yes hj (by decide) (by decide) hY hb)
      have eY := and_63 Y
      obtain ⟨Z, hZ⟩ : ∃ Z, r0 * 64 + Y.toNat % 64 = Z := ⟨_, rfl⟩
      rw [hZ] at hy
      have eO := shl_or r0 Y.toNat Z (by omega) hZ
      clear hZ
      clear hj hY
      go_wp2_with fail
      go_step3
      go_wp2_with fail
      go_step3
      exact ⟨rfl, Z, 1, hy, rfl⟩
    · have hnn := Lib.hid (rs_no (least := 2048) hj (by decide) hY hb)
      clear hj hY
      go_wp2_with fail
      go_step3
      go_wp2_with fail
      go_step3
      exact ⟨rfl, hnn, rfl⟩
  case pass =>
    intro l' a' w' hJ
    match l', hJ with
    | 0, hJ =>
      obtain ⟨rfl, hn, hf⟩ := hJ
      obtain ⟨f, rfl⟩ := hf.ex
      refine ⟨_, rfl, ?_⟩
      dsimp only
      go_wp2_with fail
      refine jumps_ret ?_
      go_ret2
      rw [hn.out]
      exact ⟨rfl, rfl⟩
    | 1, hJ =>
      obtain ⟨rfl, R, j, hj, hf⟩ := hJ
      obtain ⟨f, rfl⟩ := hf.ex
      refine ⟨_, rfl, ?_⟩
      have hj3 : j ≤ 2 := hj.out.1
      by_cases hjm : j < 2
      · obtain ⟨Y, hY⟩ : ∃ Y, l[j]? = some Y := ⟨_, List.getElem?_eq_getElem (by have := hl.out; omega)⟩
        have hc := hS.out j Y hY
        have hR : R < 131072 := by have := hj.out.2.2; omega
        cases hb : ((bits .and .u8 (Y.toNat : Int) 192) != 128)
        · have hy := Lib.hid (rs_yes hj.out (by decide) hjm hY hb)
          have eY := and_63 Y
          obtain ⟨Z, hZ⟩ : ∃ Z, R * 64 + Y.toNat % 64 = Z := ⟨_, rfl⟩
          rw [hZ] at hy
          have eO := shl_or R Y.toNat Z (by omega) hZ
          clear hZ
          clear hj hY
          dsimp only
          go_wp2_with fail
          go_step3
          refine ⟨⟨rfl, Z, j + 1, hy, rfl⟩, ?_⟩
          show 10 - ((((j + 1 : Nat) : Int)) + 1).toNat < 10 - ((j : Int) + 1).toNat
          omega
        · have hnn := Lib.hid (rs_no (least := 2048) hj.out hjm hY hb)
          clear hj hY
          dsimp only
          go_wp2_with fail
          go_step3
          refine ⟨⟨rfl, hnn, rfl⟩, ?_⟩
          show 0 < 10 - ((j : Int) + 1).toNat
          omega
      · obtain rfl : j = 2 := by omega
        have he := Lib.hid (rs_end hj.out hjm)
        have hR : R < 8388608 := by have := hj.out.2.2; omega
        obtain ⟨RI, hRI⟩ : ∃ z : Int, (R : Int) = z := ⟨_, rfl⟩
        dsimp only
        simp only [hRI]
        by_cases ht : R < 2048
        · have hnn : Hid (fin 2048 2 (moreR 2 r0 l) = (0, 0)) := Lib.hid (by rw [he.out]; exact fin_lt ht)
          have htI : RI < 2048 := by omega
          clear hj he hjm hR ht hRI
          go_wp2_with fail
          go_step3
          refine ⟨⟨rfl, hnn, rfl⟩, ?_⟩
          show 0 < 10 - ((2 : Int) + 1).toNat
          decide
        · have htI : ¬ RI < 2048 := by omega
          have hI := is_any RI w'
          cases hb : decide (0 ≤ RI ∧ RI ≤ 1114111 ∧ (RI < 55296 ∨ 57343 < RI))
          · rw [hb] at hI
            have hnn : Hid (fin 2048 2 (moreR 2 r0 l) = (0, 0)) := Lib.hid (by rw [he.out]; exact fin_no (fun h => by have := of_decide_eq_false hb; unfold isR at h; omega))
            have hI := Lib.hid hI
            clear hb hj he hjm hR ht hRI
            go_wp2_with fail
            with_reducible refine (hI.out).mono ?_
            rintro e w'' ⟨rfl, rfl⟩
            go_wp2_with fail
            go_step3
            refine ⟨⟨rfl, hnn, rfl⟩, ?_⟩
            show 0 < 10 - ((2 : Int) + 1).toNat
            decide
          · rw [hb] at hI
            have hnn : Hid (fin 2048 2 (moreR 2 r0 l) = (R, 2 + 1)) := Lib.hid (by rw [he.out]; exact fin_ok ht (by have := of_decide_eq_true hb; unfold isR; omega))
            have hI := Lib.hid hI
            replace hRI := Lib.hid hRI
            clear hb hj he hjm hR ht
            go_wp2_with fail
            with_reducible refine (hI.out).mono ?_
            rintro e w'' ⟨rfl, rfl⟩
            go_wp2_with fail
            refine jumps_ret ?_
            go_ret2
            rw [hnn.out, ← hRI.out]
            exact ⟨rfl, rfl⟩
theorem rune_c3 (a0 : Addr) (n c k : Nat) (X : Int) (l : List UInt8) (r0 : Nat) (h1 : 240 ≤ X) (h2 : X < 248) (hr : X % 8 = r0) (hn : n ≤ 1000000) (hk : (k : Int) + 3 < n) (w : World) (hx : w.cell? (a0.add k) = some (.int .u8 X)) (hS : Hid (∀ i y, l[i]? = some y → w.cell? (a0.add (k + (i + 1))) = some (.int .u8 (y.toNat : Int)))) (hl : Hid (3 ≤ l.length)) :
    Calls Tryz.prog 254 #[.slice (some a0) n c, .int .i64 k] w fun e w' => e = .returned (.tuple #[.int .i64 ((fin 65536 3 (moreR 3 r0 l)).1 : Int), .int .i64 ((fin 65536 3 (moreR 3 r0 l)).2 : Int)]) ∧ w = w' := by
  have e1 : wrap64 X = X := by rw [wrap64]; omega
  have e2 : ¬ X < 128 := by omega
  have e3 : bits .and .i64 X 7 = (r0 : Int) := by rw [and_7 X (by omega) (by omega), hr]
  have hkn : (k : Int) < n := by omega
  go_enter Tryz.func254, Tryz.ntmps254
  go_wp2_with fail
  refine wp_scope_all (fun l' a' w' => match l' with
    | 0 => w' = w ∧ Hid (fin 65536 3 (moreR 3 r0 l) = (0, 0)) ∧ Fr a' (fun f => #[.slice (some a0) n c, .int .i64 k, f 2, f 3, f 4, f 5, f 6, f 7, f 8, f 9, f 10, f 11, f 12, f 13, f 14, f 15, f 16, f 17, f 18, f 19, f 20, f 21, f 22, f 23, f 24, f 25, f 26, f 27, f 28, f 29, f 30, f 31, f 32, f 33, f 34, f 35, f 36, f 37, f 38, f 39, f 40, f 41, f 42, f 43, f 44, f 45, f 46, f 47, f 48, f 49, f 50, f 51, f 52, f 53, f 54, f 55, f 56, f 57, f 58, f 59, f 60, f 61, f 62, f 63, f 64, f 65, f 66, f 67, f 68, f 69, f 70, f 71, f 72, f 73, f 74, f 75, f 76, f 77, f 78, f 79, f 80, f 81, f 82, f 83, f 84, f 85, f 86, f 87, f 88, f 89, f 90, f 91, f 92, f 93, f 94, f 95])
    | 1 => w' = w ∧ ∃ R j : Nat, Hid (RS l r0 3 R j) ∧ Fr a' (fun f => #[.slice (some a0) n c, .int .i64 k, f 2, f 3, .int .i64 R, f 5, f 6, .int .i64 3, .int .i64 65536, .int .i64 ((j : Int) + 1), f 10, f 11, f 12, f 13, f 14, f 15, f 16, f 17, f 18, f 19, f 20, f 21, f 22, f 23, f 24, f 25, f 26, f 27, f 28, f 29, f 30, f 31, f 32, f 33, f 34, f 35, f 36, f 37, f 38, f 39, f 40, f 41, f 42, f 43, f 44, f 45, f 46, f 47, f 48, f 49, f 50, f 51, f 52, f 53, f 54, f 55, f 56, f 57, f 58, f 59, f 60, f 61, f 62, f 63, f 64, f 65, f 66, f 67, f 68, f 69, f 70, f 71, f 72, f 73, f 74, f 75, f 76, f 77, f 78, f 79, f 80, f 81, f 82, f 83, f 84, f 85, f 86, f 87, f 88, f 89, f 90, f 91, f 92, f 93, f 94, f 95])
    | _ => False) (fun l' a' _ => if l' = 0 then 0 else 10 - (intOf (a'.tmps.getD 9 undef)).toNat) ?first ?pass
  case first =>
    obtain ⟨Y, hY⟩ : ∃ Y, l[0]? = some Y := ⟨_, List.getElem?_eq_getElem (by have := hl.out; omega)⟩
    have hc : w.cell? ⟨a0.block, a0.off + (k + 1), none⟩ = some (.int .u8 (Y.toNat : Int)) := (add_s a0 k 0) ▸ hS.out 0 Y hY
    have hj := rs_start l r0 3 (by omega)
    cases hb : ((bits .and .u8 (Y.toNat : Int) 192) != 128)
    · have hy := Lib.hid (rs_yes hj (by decide) (by decide) hY hb)
      have eY := and_63 Y
      obtain ⟨Z, hZ⟩ : ∃ Z, r0 * 64 + Y.toNat % 64 = Z := ⟨_, rfl⟩
      rw [hZ] at hy
      have eO := shl_or r0 Y.toNat Z (by omega) hZ
      clear hZ
      clear hj hY
      go_wp2_with fail
      go_step3
      go_wp2_with fail
      go_step3
      exact ⟨rfl, Z, 1, hy, rfl⟩
    · have hnn := Lib.hid (rs_no (least := 65536) hj (by decide) hY hb)
      clear hj hY
      go_wp2_with fail
      go_step3
      go_wp2_with fail
      go_step3
      exact ⟨rfl, hnn, rfl⟩
  case pass =>
    intro l' a' w' hJ
    match l', hJ with
    | 0, hJ =>
      obtain ⟨rfl, hn, hf⟩ := hJ
      obtain ⟨f, rfl⟩ := hf.ex
      refine ⟨_, rfl, ?_⟩
      dsimp only
      go_wp2_with fail
      refine jumps_ret ?_
      go_ret2
      rw [hn.out]
      exact ⟨rfl, rfl⟩
    | 1, hJ =>
      obtain ⟨rfl, R, j, hj, hf⟩ := hJ
      obtain ⟨f, rfl⟩ := hf.ex
      refine ⟨_, rfl, ?_⟩
      have hj3 : j ≤ 3 := hj.out.1
      by_cases hjm : j < 3
      · obtain ⟨Y, hY⟩ : ∃ Y, l[j]? = some Y := ⟨_, List.getElem?_eq_getElem (by have := hl.out; omega)⟩
        have hc := hS.out j Y hY
        have hR : R < 131072 := by have := hj.out.2.2; omega
        cases hb : ((bits .and .u8 (Y.toNat : Int) 192) != 128)
        · have hy := Lib.hid (rs_yes hj.out (by decide) hjm hY hb)
          have eY := and_63 Y
          obtain ⟨Z, hZ⟩ : ∃ Z, R * 64 + Y.toNat % 64 = Z := ⟨_, rfl⟩
          rw [hZ] at hy
          have eO := shl_or R Y.toNat Z (by omega) hZ
          clear hZ
          clear hj hY
          dsimp only
          go_wp2_with fail
          go_step3
          refine ⟨⟨rfl, Z, j + 1, hy, rfl⟩, ?_⟩
          show 10 - ((((j + 1 : Nat) : Int)) + 1).toNat < 10 - ((j : Int) + 1).toNat
          omega
        · have hnn := Lib.hid (rs_no (least := 65536) hj.out hjm hY hb)
          clear hj hY
          dsimp only
          go_wp2_with fail
          go_step3
          refine ⟨⟨rfl, hnn, rfl⟩, ?_⟩
          show 0 < 10 - ((j : Int) + 1).toNat
          omega
      · obtain rfl : j = 3 := by omega
        have he := Lib.hid (rs_end hj.out hjm)
        have hR : R < 8388608 := by have := hj.out.2.2; omega
        obtain ⟨RI, hRI⟩ : ∃ z : Int, (R : Int) = z := ⟨_, rfl⟩
        dsimp only
        simp only [hRI]
        by_cases ht : R < 65536
        · have hnn : Hid (fin 65536 3 (moreR 3 r0 l) = (0, 0)) := Lib.hid (by rw [he.out]; exact fin_lt ht)
          have htI : RI < 65536 := by omega
          clear hj he hjm hR ht hRI
          go_wp2_with fail
          go_step3
          refine ⟨⟨rfl, hnn, rfl⟩, ?_⟩
          show 0 < 10 - ((3 : Int) + 1).toNat
          decide
        · have htI : ¬ RI < 65536 := by omega
          have hI := is_any RI w'
          cases hb : decide (0 ≤ RI ∧ RI ≤ 1114111 ∧ (RI < 55296 ∨ 57343 < RI))
          · rw [hb] at hI
            have hnn : Hid (fin 65536 3 (moreR 3 r0 l) = (0, 0)) := Lib.hid (by rw [he.out]; exact fin_no (fun h => by have := of_decide_eq_false hb; unfold isR at h; omega))
            have hI := Lib.hid hI
            clear hb hj he hjm hR ht hRI
            go_wp2_with fail
            with_reducible refine (hI.out).mono ?_
            rintro e w'' ⟨rfl, rfl⟩
            go_wp2_with fail
            go_step3
            refine ⟨⟨rfl, hnn, rfl⟩, ?_⟩
            show 0 < 10 - ((3 : Int) + 1).toNat
            decide
          · rw [hb] at hI
            have hnn : Hid (fin 65536 3 (moreR 3 r0 l) = (R, 3 + 1)) := Lib.hid (by rw [he.out]; exact fin_ok ht (by have := of_decide_eq_true hb; unfold isR; omega))
            have hI := Lib.hid hI
            replace hRI := Lib.hid hRI
            clear hb hj he hjm hR ht
            go_wp2_with fail
            with_reducible refine (hI.out).mono ?_
            rintro e w'' ⟨rfl, rfl⟩
            go_wp2_with fail
            refine jumps_ret ?_
            go_ret2
            rw [hnn.out, ← hRI.out]
            exact ⟨rfl, rfl⟩
theorem chr_cls {x : UInt8} {r0 m t : Nat} (h : cls x.toNat = some (r0, m, t)) (l : List UInt8) : chr (x :: l) = fin t m (moreR m r0 l) := by
  have := cls_le h
  rw [chr_cons, if_neg (by omega), h]
  rfl
theorem chr_noCls {x : UInt8} (h0 : ¬ x.toNat < 128) (h : cls x.toNat = none) (l : List UInt8) : chr (x :: l) = (0, 0) := by
  rw [chr_cons, if_neg h0, h]
theorem chr_short {x : UInt8} {r0 m t : Nat} (h : cls x.toNat = some (r0, m, t)) {l : List UInt8} (hl : l.length < m) : chr (x :: l) = (0, 0) := by
  rw [chr_cls h]
  cases hr : moreR m r0 l with
  | none => rfl
  | some r => have := moreR_len hr; omega
theorem rune_end (ad : Option Addr) (n c k : Nat) (hk : n ≤ k) (w : World) : Calls Tryz.prog 254 #[.slice ad n c, .int .i64 k] w fun e w' => e = .returned (.tuple #[.int .i64 0, .int .i64 0]) ∧ w = w' := by
  have hk' : ¬ (k : Int) < n := by omega
  go_enter Tryz.func254, Tryz.ntmps254
  go_wp2_with fail
  refine wp_scope_all (fun l' a' w' => match l' with
    | 0 => w' = w ∧ Fr a' (fun f => #[.slice ad n c, .int .i64 k, f 2, f 3, f 4, f 5, f 6, f 7, f 8, f 9, f 10, f 11, f 12, f 13, f 14, f 15, f 16, f 17, f 18, f 19, f 20, f 21, f 22, f 23, f 24, f 25, f 26, f 27, f 28, f 29, f 30, f 31, f 32, f 33, f 34, f 35, f 36, f 37, f 38, f 39, f 40, f 41, f 42, f 43, f 44, f 45, f 46, f 47, f 48, f 49, f 50, f 51, f 52, f 53, f 54, f 55, f 56, f 57, f 58, f 59, f 60, f 61, f 62, f 63, f 64, f 65, f 66, f 67, f 68, f 69, f 70, f 71, f 72, f 73, f 74, f 75, f 76, f 77, f 78, f 79, f 80, f 81, f 82, f 83, f 84, f 85, f 86, f 87, f 88, f 89, f 90, f 91, f 92, f 93, f 94, f 95])
    | _ => False) (fun _ _ _ => 0) ?first ?pass
  case first =>
    go_wp2_with fail
    go_step3
    exact ⟨rfl, rfl⟩
  case pass =>
    intro l' a' w' hJ
    match l', hJ with
    | 0, hJ =>
      obtain ⟨rfl, hf⟩ := hJ
      obtain ⟨f, rfl⟩ := hf.ex
      refine ⟨_, rfl, ?_⟩
      dsimp only
      go_wp2_with fail
      refine jumps_ret ?_
      go_ret2
      exact ⟨rfl, rfl⟩
theorem rune_one (a0 : Addr) (n c k : Nat) (X : Int) (h0 : 0 ≤ X) (h1 : X < 128) (hk : k < n) (w : World) (hx : w.cell? (a0.add k) = some (.int .u8 X)) : Calls Tryz.prog 254 #[.slice (some a0) n c, .int .i64 k] w fun e w' => e = .returned (.tuple #[.int .i64 X, .int .i64 1]) ∧ w = w' := by
  have e1 : wrap64 X = X := by rw [wrap64]; omega
  have hk' : (k : Int) < n := by omega
  go_enter Tryz.func254, Tryz.ntmps254
  go_wp2_with fail
  refine wp_scope_all (fun l' a' w' => False) (fun _ _ _ => 0) ?first ?pass
  case first =>
    go_wp2_with fail
    refine jumps_ret ?_
    go_ret2
    exact ⟨rfl, rfl⟩
  case pass =>
    intro l' a' w' hJ
    exact hJ.elim
theorem rune_odd (a0 : Addr) (n c k : Nat) (X : Int) (h0 : 128 ≤ X) (h1 : X < 256) (h2 : X < 192 ∨ 248 ≤ X) (hk : k < n) (w : World) (hx : w.cell? (a0.add k) = some (.int .u8 X)) : Calls Tryz.prog 254 #[.slice (some a0) n c, .int .i64 k] w fun e w' => e = .returned (.tuple #[.int .i64 0, .int .i64 0]) ∧ w = w' := by
  have e1 : wrap64 X = X := by rw [wrap64]; omega
  have hk' : (k : Int) < n := by omega
  have e2 : ¬ X < 128 := by omega
  rcases h2 with h2 | h2
  all_goals
    go_enter Tryz.func254, Tryz.ntmps254
    go_wp2_with fail
    refine wp_scope_all (fun l' a' w' => match l' with
      | 0 => w' = w ∧ Fr a' (fun f => #[.slice (some a0) n c, .int .i64 k, f 2, f 3, f 4, f 5, f 6, f 7, f 8, f 9, f 10, f 11, f 12, f 13, f 14, f 15, f 16, f 17, f 18, f 19, f 20, f 21, f 22, f 23, f 24, f 25, f 26, f 27, f 28, f 29, f 30, f 31, f 32, f 33, f 34, f 35, f 36, f 37, f 38, f 39, f 40, f 41, f 42, f 43, f 44, f 45, f 46, f 47, f 48, f 49, f 50, f 51, f 52, f 53, f 54, f 55, f 56, f 57, f 58, f 59, f 60, f 61, f 62, f 63, f 64, f 65, f 66, f 67, f 68, f 69, f 70, f 71, f 72, f 73, f 74, f 75, f 76, f 77, f 78, f 79, f 80, f 81, f 82, f 83, f 84, f 85, f 86, f 87, f 88, f 89, f 90, f 91, f 92, f 93, f 94, f 95])
      | _ => False) (fun _ _ _ => 0) ?first ?pass
    case first =>
      go_wp2_with fail
      go_step3
      exact ⟨rfl, rfl⟩
    case pass =>
      intro l' a' w' hJ
      match l', hJ with
      | 0, hJ =>
        obtain ⟨rfl, hf⟩ := hJ
        obtain ⟨f, rfl⟩ := hf.ex
        refine ⟨_, rfl, ?_⟩
        dsimp only
        go_wp2_with fail
        refine jumps_ret ?_
        go_ret2
        exact ⟨rfl, rfl⟩
theorem rune_short1 (a0 : Addr) (n c k : Nat) (X : Int) (h0 : 192 ≤ X) (h1 : X < 224) (hk : k < n) (hs : (n : Int) ≤ k + 1) (w : World) (hx : w.cell? (a0.add k) = some (.int .u8 X)) : Calls Tryz.prog 254 #[.slice (some a0) n c, .int .i64 k] w fun e w' => e = .returned (.tuple #[.int .i64 0, .int .i64 0]) ∧ w = w' := by
  have e1 : wrap64 X = X := by rw [wrap64]; omega
  have hk' : (k : Int) < n := by omega
  have e2 : ¬ X < 128 := by omega
  go_enter Tryz.func254, Tryz.ntmps254
  go_wp2_with fail
  refine wp_scope_all (fun l' a' w' => match l' with
    | 0 => w' = w ∧ Fr a' (fun f => #[.slice (some a0) n c, .int .i64 k, f 2, f 3, f 4, f 5, f 6, f 7, f 8, f 9, f 10, f 11, f 12, f 13, f 14, f 15, f 16, f 17, f 18, f 19, f 20, f 21, f 22, f 23, f 24, f 25, f 26, f 27, f 28, f 29, f 30, f 31, f 32, f 33, f 34, f 35, f 36, f 37, f 38, f 39, f 40, f 41, f 42, f 43, f 44, f 45, f 46, f 47, f 48, f 49, f 50, f 51, f 52, f 53, f 54, f 55, f 56, f 57, f 58, f 59, f 60, f 61, f 62, f 63, f 64, f 65, f 66, f 67, f 68, f 69, f 70, f 71, f 72, f 73, f 74, f 75, f 76, f 77, f 78, f 79, f 80, f 81, f 82, f 83, f 84, f 85, f 86, f 87, f 88, f 89, f 90, f 91, f 92, f 93, f 94, f 95])
    | _ => False) (fun _ _ _ => 0) ?first ?pass
  case first =>
    go_wp2_with fail
    go_step3
    exact ⟨rfl, rfl⟩
  case pass =>
    intro l' a' w' hJ
    match l', hJ with
    | 0, hJ =>
      obtain ⟨rfl, hf⟩ := hJ
      obtain ⟨f, rfl⟩ := hf.ex
      refine ⟨_, rfl, ?_⟩
      dsimp only
      go_wp2_with fail
      refine jumps_ret ?_
      go_ret2
      exact ⟨rfl, rfl⟩
theorem rune_short2 (a0 : Addr) (n c k : Nat) (X : Int) (h0 : 224 ≤ X) (h1 : X < 240) (hk : k < n) (hs : (n : Int) ≤ k + 2) (w : World) (hx : w.cell? (a0.add k) = some (.int .u8 X)) : Calls Tryz.prog 254 #[.slice (some a0) n c, .int .i64 k] w fun e w' => e = .returned (.tuple #[.int .i64 0, .int .i64 0]) ∧ w = w' := by
  have e1 : wrap64 X = X := by rw [wrap64]; omega
  have hk' : (k : Int) < n := by omega
  have e2 : ¬ X < 128 := by omega
  go_enter Tryz.func254, Tryz.ntmps254
  go_wp2_with fail
  refine wp_scope_all (fun l' a' w' => match l' with
    | 0 => w' = w ∧ Fr a' (fun f => #[.slice (some a0) n c, .int .i64 k, f 2, f 3, f 4, f 5, f 6, f 7, f 8, f 9, f 10, f 11, f 12, f 13, f 14, f 15, f 16, f 17, f 18, f 19, f 20, f 21, f 22, f 23, f 24, f 25, f 26, f 27, f 28, f 29, f 30, f 31, f 32, f 33, f 34, f 35, f 36, f 37, f 38, f 39, f 40, f 41, f 42, f 43, f 44, f 45, f 46, f 47, f 48, f 49, f 50, f 51, f 52, f 53, f 54, f 55, f 56, f 57, f 58, f 59, f 60, f 61, f 62, f 63, f 64, f 65, f 66, f 67, f 68, f 69, f 70, f 71, f 72, f 73, f 74, f 75, f 76, f 77, f 78, f 79, f 80, f 81, f 82, f 83, f 84, f 85, f 86, f 87, f 88, f 89, f 90, f 91, f 92, f 93, f 94, f 95])
    | _ => False) (fun _ _ _ => 0) ?first ?pass
  case first =>
    go_wp2_with fail
    go_step3
    exact ⟨rfl, rfl⟩
  case pass =>
    intro l' a' w' hJ
    match l', hJ with
    | 0, hJ =>
      obtain ⟨rfl, hf⟩ := hJ
      obtain ⟨f, rfl⟩ := hf.ex
      refine ⟨_, rfl, ?_⟩
      dsimp only
      go_wp2_with fail
      refine jumps_ret ?_
      go_ret2
      exact ⟨rfl, rfl⟩
theorem rune_short3 (a0 : Addr) (n c k : Nat) (X : Int) (h0 : 240 ≤ X) (h1 : X < 248) (hk : k < n) (hs : (n : Int) ≤ k + 3) (w : World) (hx : w.cell? (a0.add k) = some (.int .u8 X)) : Calls Tryz.prog 254 #[.slice (some a0) n c, .int .i64 k] w fun e w' => e = .returned (.tuple #[.int .i64 0, .int .i64 0]) ∧ w = w' := by
  have e1 : wrap64 X = X := by rw [wrap64]; omega
  have hk' : (k : Int) < n := by omega
  have e2 : ¬ X < 128 := by omega
  go_enter Tryz.func254, Tryz.ntmps254
  go_wp2_with fail
  refine wp_scope_all (fun l' a' w' => match l' with
    | 0 => w' = w ∧ Fr a' (fun f => #[.slice (some a0) n c, .int .i64 k, f 2, f 3, f 4, f 5, f 6, f 7, f 8, f 9, f 10, f 11, f 12, f 13, f 14, f 15, f 16, f 17, f 18, f 19, f 20, f 21, f 22, f 23, f 24, f 25, f 26, f 27, f 28, f 29, f 30, f 31, f 32, f 33, f 34, f 35, f 36, f 37, f 38, f 39, f 40, f 41, f 42, f 43, f 44, f 45, f 46, f 47, f 48, f 49, f 50, f 51, f 52, f 53, f 54, f 55, f 56, f 57, f 58, f 59, f 60, f 61, f 62, f 63, f 64, f 65, f 66, f 67, f 68, f 69, f 70, f 71, f 72, f 73, f 74, f 75, f 76, f 77, f 78, f 79, f 80, f 81, f 82, f 83, f 84, f 85, f 86, f 87, f 88, f 89, f 90, f 91, f 92, f 93, f 94, f 95])
    | _ => False) (fun _ _ _ => 0) ?first ?pass
  case first =>
    go_wp2_with fail
    go_step3
    exact ⟨rfl, rfl⟩
  case pass =>
    intro l' a' w' hJ
    match l', hJ with
    | 0, hJ =>
      obtain ⟨rfl, hf⟩ := hJ
      obtain ⟨f, rfl⟩ := hf.ex
      refine ⟨_, rfl, ?_⟩
      dsimp only
      go_wp2_with fail
      refine jumps_ret ?_
      go_ret2
      exact ⟨rfl, rfl⟩
end
end Go.Proofs.YtihnfhhopldllaaGreatDoor
