/- Parts of the proof of TopLooks: U37. No condition. -/
import Derived.Test.YtihnfhhopldllaaGreatDoorJ1
import Derived.Test.YtihnfhhopldllaaGreatDoorJ10
import Derived.Test.YtihnfhhopldllaaGreatDoorJ9
namespace Go.Proofs.YtihnfhhopldllaaGreatDoor
set_option linter.unusedSimpArgs false
set_option linter.unusedVariables false
set_option maxHeartbeats 6400000
set_option maxRecDepth 100000
section
open Go.RowKit
theorem conv_row {w : World} {base n : Nat} {v : Value} (l : List UInt8) (ho : w.ownsRow base 5 1 v n (l.map (fun x => .int .u8 (x.toNat : Int)))) : (convert 24 9 v).run Tryz.prog w = .ok (.string (bs l)) w := by
  have ho' := ho
  rcases ho.2 with ⟨rfl, h0⟩ | ⟨g, cap, cur, rfl, _⟩
  · have e : l = [] := List.length_eq_zero_iff.1 (by have := ho.1; simp at this; omega)
    subst e
    exact Lib.run_convert_nil_bytes w _ _ 5 0 ty_bytes ty_u8 ty_str
  · exact conv_back l ho'
theorem sub4 (T : ByteArray) (p : Nat) (hp : p ≤ T.size) : (T.extract p (min ((p : Int) + 4) (T.size : Int)).toNat).data.toList = (T.data.toList.drop p).take 4 := by
  rw [Lib.extract_data]
  have hl := len_data T
  rcases Nat.le_total (p + 4) T.size with h | h
  · rw [show (min ((p : Int) + 4) (T.size : Int)).toNat - p = 4 by omega]
  · rw [List.take_of_length_le (by rw [List.length_drop]; omega), List.take_of_length_le (by rw [List.length_drop]; omega)]
theorem esc_back {x : UInt8} (h : ¬ selfB x) : ∃ y r, esc x = 92 :: y :: r := by
  unfold esc
  cases he : escTo x with
  | some d => exact ⟨d, [], rfl⟩
  | none =>
    have h32 : x.toNat < 32 := by
      rcases Nat.lt_or_ge x.toNat 32 with h1 | h1
      · exact h1
      · exact absurd ⟨he, h1⟩ h
    exact ⟨117, [48, 48, hexD (x.toNat / 16), hexD (x.toNat % 16)], by simp only; rw [if_pos h32]⟩
theorem At.len {T : ByteArray} {p : Nat} {Z : List UInt8} (h : At T p Z) : p + Z.length = T.size := by
  have h1 := congrArg List.length h.2
  have h2 := h.1
  have h3 := len_data T
  rw [List.length_drop] at h1
  omega
theorem one_u8y {a : Int} : ∀ u ∈ [Value.int .u8 a], u.oneCell' = true := fun u hu => by
  rcases List.mem_singleton.1 hu with rfl
  rfl
theorem esc_low {x d : UInt8} (h : escTo x = some d) : 0 < x.toNat ∧ x.toNat < 128 := by
  unfold escTo at h
  split at h
  · rename_i e; subst e; decide
  split at h
  · rename_i e; subst e; decide
  split at h
  · rename_i e; subst e; decide
  split at h
  · rename_i e; subst e; decide
  split at h
  · rename_i e; subst e; decide
  split at h
  · rename_i e; subst e; decide
  split at h
  · rename_i e; subst e; decide
  · cases h
theorem esc_d {x d : UInt8} (h : escTo x = some d) : d.toNat ≠ 117 := by
  unfold escTo at h
  repeat' (split at h; · cases h; decide)
  cases h
theorem esc_ctl {x : UInt8} (h : escTo x = none) (h32 : x.toNat < 32) : esc x = [92, 117, 48, 48, hexD (x.toNat / 16), hexD (x.toNat % 16)] := by
  unfold esc
  rw [h]
  exact if_pos h32
def hx4 (n : Nat) (j : Nat) : Nat := match j with
  | 0 => 0
  | 1 => 0
  | 2 => n / 16
  | _ => n % 16
theorem hx4_lt (n : Nat) (h : n < 32) (j : Nat) : hx4 n j < 16 := by
  unfold hx4
  split <;> omega
theorem hx4_val (n : Nat) (h : n < 32) : cdv (hx4 n) 4 = n := by
  simp only [cdv, hx4]
  omega
def TxS (T : ByteArray) (Z t : List UInt8) (W2 : World) (B K p : Nat) (v : Value) (wr : World) : Prop :=
  K ≤ t.length ∧ Wh (t.drop K) ∧ At T p (escs (t.drop K) ++ 34 :: Z) ∧ wr.ownsRow B 5 1 v K ((t.take K).map fun z => .int .u8 (z.toNat : Int)) ∧ Below B W2 wr
theorem text_any (T : ByteArray) (hT : T.size ≤ 1000000) (p0 : Nat) (t Z : List UInt8) (ht : t.length ≤ 200) (hw : Wh t) (h : At T p0 (quote t ++ Z)) (w : World) :
    Calls Tryz.prog 192 #[.string T, .int .i64 p0] w fun e w' => e = .returned (.tuple #[.agg #[.int .i64 8, .int .i64 p0, .int .i64 (p0 + (quote t).length : Nat), .string (bs t)], .agg #[.int .i64 0, .int .i64 0, .slice none 0 0]]) ∧ Below w.heap.size w w' := by
  have hq0 := At.next (c := 34) (Z := escs t ++ 34 :: Z) (by have e : quote t ++ Z = 34 :: (escs t ++ 34 :: Z) := by { show 34 :: ((escs t ++ [34]) ++ Z) = _; simp }; rw [← e]; exact h)
  have hp1 : p0 + 1 ≤ T.size := hq0.1
  go_enter Tryz.func192, Tryz.ntmps192
  go_wp2_with fail
  obtain ⟨W2, hW2⟩ : ∃ W, W = (w.alloc (.cells #[.int .i64 0, .int .i64 0, .int .i64 0, .string { data := #[] }] 126)).alloc (.cells #[.int .i64 0, .int .i64 0, .slice none 0 0] 33) := ⟨_, rfl⟩
  rw [← hW2]
  have HW2 := Lib.hid hW2
  have hz2 : W2.heap.size = w.heap.size + 2 := by rw [hW2]; simp
  clear hW2
  refine wp_scope_all (fun l' a' w' => match l' with
    | 1 => ∃ (K p : Nat) (v : Value), TxS T Z t W2 (w.heap.size + 2) K p v w' ∧ Fr a' (fun f => #[.string T, .int .i64 p0, f 2, f 3, .pointer (some ⟨w.heap.size, 0, none⟩), .pointer (some ⟨w.heap.size + 1, 0, none⟩), v, f 7, f 8, f 9, f 10, f 11, .int .i64 p, f 13, f 14, f 15, f 16, f 17, f 18, f 19, f 20, f 21, f 22, f 23, f 24, f 25, f 26, f 27, f 28, f 29, f 30, f 31, f 32, f 33, f 34, f 35, f 36, f 37, f 38, f 39, f 40, f 41, f 42, f 43, f 44, f 45, f 46, f 47, f 48, f 49, f 50, f 51, f 52, f 53, f 54, f 55, f 56, f 57, f 58, f 59, f 60, f 61, f 62, f 63, f 64, f 65, f 66, f 67, f 68, f 69, f 70, f 71, f 72, f 73, f 74, f 75, f 76, f 77, f 78, f 79, f 80, f 81, f 82, f 83, f 84, f 85, f 86, f 87, f 88, f 89, f 90, f 91, f 92, f 93, f 94, f 95, f 96, f 97, f 98, f 99, f 100, f 101, f 102, f 103, f 104, f 105, f 106, f 107, f 108, f 109, f 110, f 111, f 112, f 113, f 114, f 115, f 116, f 117, f 118, f 119, f 120, f 121, f 122, f 123, f 124, f 125, f 126, f 127, f 128, f 129, f 130, f 131, f 132, f 133, f 134, f 135, f 136, f 137, f 138, f 139, f 140, f 141, f 142, f 143, f 144, f 145, f 146, f 147, f 148, f 149, f 150, f 151, f 152, f 153, f 154, f 155, f 156, f 157, f 158, f 159, f 160, f 161, f 162, f 163, f 164, f 165, f 166, f 167, f 168, f 169, f 170, f 171, f 172, f 173, f 174])
    | 2 => ∃ (K p : Nat) (v : Value), TxS T Z t W2 (w.heap.size + 2) K p v w' ∧ (∃ x, t[K]? = some x ∧ ¬ selfB x) ∧ Fr a' (fun f => #[.string T, .int .i64 p0, f 2, f 3, .pointer (some ⟨w.heap.size, 0, none⟩), .pointer (some ⟨w.heap.size + 1, 0, none⟩), v, f 7, f 8, f 9, f 10, f 11, .int .i64 p, f 13, f 14, f 15, f 16, f 17, f 18, f 19, f 20, f 21, f 22, f 23, f 24, f 25, f 26, f 27, f 28, f 29, f 30, f 31, f 32, f 33, f 34, f 35, f 36, f 37, f 38, f 39, f 40, f 41, f 42, f 43, f 44, f 45, f 46, f 47, f 48, f 49, f 50, f 51, f 52, f 53, f 54, f 55, f 56, f 57, f 58, f 59, f 60, f 61, f 62, f 63, f 64, f 65, f 66, f 67, f 68, f 69, f 70, f 71, f 72, f 73, f 74, f 75, f 76, f 77, f 78, f 79, f 80, f 81, f 82, f 83, f 84, f 85, f 86, f 87, f 88, f 89, f 90, f 91, f 92, f 93, f 94, f 95, f 96, f 97, f 98, f 99, f 100, f 101, f 102, f 103, f 104, f 105, f 106, f 107, f 108, f 109, f 110, f 111, f 112, f 113, f 114, f 115, f 116, f 117, f 118, f 119, f 120, f 121, f 122, f 123, f 124, f 125, f 126, f 127, f 128, f 129, f 130, f 131, f 132, f 133, f 134, f 135, f 136, f 137, f 138, f 139, f 140, f 141, f 142, f 143, f 144, f 145, f 146, f 147, f 148, f 149, f 150, f 151, f 152, f 153, f 154, f 155, f 156, f 157, f 158, f 159, f 160, f 161, f 162, f 163, f 164, f 165, f 166, f 167, f 168, f 169, f 170, f 171, f 172, f 173, f 174])
    | 3 => ∃ (K p : Nat) (v : Value), TxS T Z t W2 (w.heap.size + 2) K p v w' ∧ (∃ x, t[K]? = some x ∧ escTo x = none ∧ x.toNat < 32) ∧ Fr a' (fun f => #[.string T, .int .i64 p0, f 2, f 3, .pointer (some ⟨w.heap.size, 0, none⟩), .pointer (some ⟨w.heap.size + 1, 0, none⟩), v, f 7, f 8, f 9, f 10, f 11, .int .i64 p, f 13, f 14, f 15, f 16, f 17, f 18, f 19, f 20, f 21, f 22, f 23, f 24, f 25, f 26, f 27, f 28, f 29, f 30, f 31, f 32, f 33, f 34, f 35, f 36, f 37, f 38, f 39, f 40, f 41, f 42, f 43, f 44, f 45, f 46, f 47, f 48, f 49, f 50, f 51, f 52, f 53, f 54, f 55, f 56, f 57, f 58, f 59, f 60, f 61, f 62, f 63, f 64, f 65, f 66, f 67, f 68, f 69, f 70, f 71, f 72, f 73, f 74, f 75, f 76, f 77, f 78, f 79, f 80, f 81, f 82, f 83, f 84, f 85, f 86, f 87, f 88, f 89, f 90, f 91, f 92, f 93, f 94, f 95, f 96, f 97, f 98, f 99, f 100, f 101, f 102, f 103, f 104, f 105, f 106, f 107, f 108, f 109, f 110, f 111, f 112, f 113, f 114, f 115, f 116, f 117, f 118, f 119, f 120, f 121, f 122, f 123, f 124, f 125, f 126, f 127, f 128, f 129, f 130, f 131, f 132, f 133, f 134, f 135, f 136, f 137, f 138, f 139, f 140, f 141, f 142, f 143, f 144, f 145, f 146, f 147, f 148, f 149, f 150, f 151, f 152, f 153, f 154, f 155, f 156, f 157, f 158, f 159, f 160, f 161, f 162, f 163, f 164, f 165, f 166, f 167, f 168, f 169, f 170, f 171, f 172, f 173, f 174])
    | _ => False) (fun l' a' _ => 3 * (T.size - (intOf (a'.tmps.getD 12 undef)).toNat) + (if l' = 1 then 2 else if l' = 2 then 1 else 0)) ?first ?pass
  case first =>
    obtain ⟨p, hpe⟩ : ∃ p : Nat, p = p0 + 1 := ⟨_, rfl⟩
    have hpw : wrap64 ((p0 : Int) + 1) = (p : Int) := by rw [wrap64]; omega
    have hpq : (p0 : Int) + 1 = (p : Int) := by omega
    obtain ⟨K, hK0⟩ : ∃ K : Nat, K = 0 := ⟨_, rfl⟩
    have hs : TxS T Z t W2 (w.heap.size + 2) K p (.slice none 0 0) W2 := by
      rw [hK0, hpe]
      refine ⟨Nat.zero_le _, by simpa using hw, by simpa using hq0, ?_, Below.refl _ _⟩
      rw [List.take_zero]
      exact World.ownsRow_nil _ _ _ _
    clear hpe hK0
    go_wp2_with fail
    go_step3
    have HS := Lib.hid hs
    obtain ⟨hK, hWh, hAt, hO, hb⟩ := hs
    have HO := Lib.hid hO
    have HB := Lib.hid hb
    have hzr := hb.size
    have hBr : w.heap.size + 2 ≤ W2.heap.size := by omega
    have HL := Lib.hid (fun k hk => (World.ownsRow.lt hO k hk).1)
    clear hO hb
    rcases Nat.lt_or_ge K t.length with hKt | hKt
    · obtain ⟨x, hx⟩ : ∃ x, t[K]? = some x := ⟨_, List.getElem?_eq_getElem hKt⟩
      rw [drop_at hx] at hWh hAt
      by_cases hsf : selfB x
      · obtain ⟨hn0, hwn⟩ := wh_step (by simp) hWh
        obtain ⟨c1, c2, c3, c4⟩ := char_at hAt.2 hsf (by omega)
        have hAb : At T p (x :: (escs (t.drop (K + 1)) ++ 34 :: Z)) := by rw [escs_cons, esc_self hsf] at hAt; exact hAt
        obtain ⟨hpT, hpx⟩ := hAb.byte
        have e0 : ¬ (p : Int) = T.size := by omega
        have e1 : ¬ ((T[p]'hpT).toNat : Int) = 34 := by rw [hpx]; intro e; have : x = 34 := UInt8.toNat_inj.1 (Int.ofNat.inj e); subst this; exact absurd hsf.1 (by decide)
        have e2 : ¬ ((T[p]'hpT).toNat : Int) < 32 := by rw [hpx]; have := hsf.2; omega
        have e3 : ¬ ((T[p]'hpT).toNat : Int) = 92 := by rw [hpx]; intro e; have : x = 92 := UInt8.toNat_inj.1 (Int.ofNat.inj e); subst this; exact absurd hsf.1 (by decide)
        have h4 := sub4 T p hAt.1
        obtain ⟨S4, hS4⟩ : ∃ s, T.extract p (min ((p : Int) + 4) (T.size : Int)).toNat = s := ⟨_, rfl⟩
        rw [hS4] at h4
        obtain ⟨q4, w4, hcv4, hSb4, hb4, hz4⟩ := conv_bytes S4 W2
        have h4s : S4.size ≤ 1000000 := by rw [← len_data S4, h4, List.length_take]; omega
        have RU := Lib.hid (rune_any (some ⟨W2.heap.size, 0, none⟩) S4.size q4 0 S4.data.toList (len_data S4) h4s w4 hSb4)
        rw [List.drop_zero, h4, c1] at RU
        obtain ⟨n, hn⟩ : ∃ n, (chr (x :: t.drop (K + 1))).2 = n := ⟨_, rfl⟩
        obtain ⟨R, hR⟩ : ∃ n, (chr (x :: t.drop (K + 1))).1 = n := ⟨_, rfl⟩
        have hself := char_self hsf (by omega : 0 < (chr (x :: t.drop (K + 1))).2)
        have hle := (chr_le (x :: t.drop (K + 1))).1
        rw [hn] at RU c2 c3 c4 hn0 hwn hself hle
        rw [hR] at RU
        rw [← drop_at hx] at c2 c4 hwn hle
        have hTl : T.data.toList.length = T.size := len_data T
        have hn1 : 0 < n := by omega
        have e4 : ¬ (n : Int) = 0 := by omega
        have e5 : p + n ≤ T.size := by omega
        have h5 := Lib.extract_data T p (p + n)
        rw [Nat.add_sub_cancel_left, c2] at h5
        obtain ⟨S5, hS5⟩ : ∃ s, T.extract p ((p : Int) + (n : Int)).toNat = s := ⟨_, rfl⟩
        have hS5' : T.extract p (p + n) = S5 := by rw [← hS5, show ((p : Int) + (n : Int)).toNat = p + n by omega]
        rw [hS5'] at h5
        clear hS5'
        have h5s : S5.size = n := by rw [← len_data S5, h5, List.length_take, List.length_drop]; rw [List.length_drop] at hle; omega
        have HN : Hid (K + n ≤ t.length ∧ Wh (t.drop (K + n)) ∧ At T (p + n) (escs (t.drop (K + n)) ++ 34 :: Z) ∧ (t.take K).map (fun z => Value.int .u8 (z.toNat : Int)) ++ Lib.strCells S5 = (t.take (K + n)).map fun z => .int .u8 (z.toNat : Int)) := Lib.hid (by
          rw [List.length_drop] at hle
          rw [List.drop_drop] at c4 hwn
          refine ⟨by omega, hwn, ⟨e5, c4⟩, ?_⟩
          show _ ++ S5.data.toList.map _ = _
          rw [h5, List.take_add, List.map_append])
        have hO4 := Lib.hid (ownsRow_keeps HO.out (fun g hg => hb4.block g (World.ownsRow.lt HO.out g hg).2))
        have HB4 := Lib.hid (HB.out.trans (hb4.mono hBr))
        have hB4 : w.heap.size + 2 ≤ w4.heap.size := by omega
        replace RU : Hid (Calls Tryz.prog 254 #[.slice (some ⟨W2.heap.size, 0, none⟩) S4.size q4, .int .i64 0] w4 _) := RU
        rw [hz2] at RU
        obtain ⟨i0, hi, iz0, iz1, iz2⟩ := hi_u8
        clear hpx hAb h4 hb4 hSb4 c1 c2 c3 c4 hself hle hn hR hwn hn0 h5 hWh hAt hTl
        go_wp2_with fail
        with_reducible refine (RU.out).mono ?_
        rintro e w' ⟨rfl, rfl⟩
        go_wp2_with (at_builtin; go_loud (refine Lib.wpList_append_own_string _ rfl _ _ 24 9 rfl (w.heap.size + 2) 5 i0 Tryz.underlying24 ty_str hi iz0 iz1 iz2 _ K _ rfl hO4.out S5 rfl (by unfold maxLen; omega) (by omega) hB4 ?_; intro v5 w5 hown5 hgrow5 hnil5))
        have hB5 : Below (w.heap.size + 2) W2 w5 := Below.grown HB4.out hgrow5 hB4 (fun k hk => HL.out k hk)
        have HS5 : Hid (TxS T Z t W2 (w.heap.size + 2) (K + n) (p + n) v5 w5) := Lib.hid ⟨HN.out.1, HN.out.2.1, HN.out.2.2.1, by rw [← HN.out.2.2.2, ← h5s]; exact hown5, hB5⟩
        clear hB5 hown5 hgrow5 hnil5
        go_wp2_with fail
        go_step3
        exact ⟨K + n, p + n, v5, HS5.out, rfl⟩
      · have hesc : ∃ y r, esc x = 92 :: y :: r := esc_back hsf
        obtain ⟨y, r, hyr⟩ := hesc
        rw [escs_cons, hyr] at hAt
        obtain ⟨hpT, hpx⟩ := At.byte hAt
        have e0 : ¬ (p : Int) = T.size := by omega
        have e1 : ((T[p]'hpT).toNat : Int) = 92 := by rw [hpx]; rfl
        clear hpx hyr hWh hAt
        go_wp2_with fail
        go_step3
        exact ⟨K, p, (.slice none 0 0), HS.out, ⟨x, hx, hsf⟩, rfl⟩
    · have hKe : K = t.length := by omega
      rw [List.drop_eq_nil_of_le hKt] at hAt
      have hAe : At T p (34 :: Z) := hAt
      obtain ⟨hpT, hpx⟩ := At.byte hAe
      have e0 : ¬ (p : Int) = T.size := by omega
      have e1 : ((T[p]'hpT).toNat : Int) = 34 := by rw [hpx]; rfl
      have hend : ((p0 + (quote t).length : Nat) : Int) = (p : Int) + 1 := by have h1 := hAe.len; have h2 := h.len; simp only [List.length_append, List.length_cons] at h1 h2; omega
      have hO5 : W2.ownsRow (w.heap.size + 2) 5 1 ((.slice none 0 0)) K (t.map fun z => .int .u8 (z.toNat : Int)) := by have h1 := HO.out; rw [List.take_of_length_le hKt] at h1; exact h1
      have hcv := conv_row t hO5
      have HE := Lib.hid hend
      clear hpx hWh hAt hAe hO5 hKe hend
      have hcc := HB.out
      have hbw : Below w.heap.size w W2 := Below.trans (by rw [HW2.out]; exact bel) (HB.out.mono (by omega))
      have hlt0 : w.heap.size < W2.heap.size := by omega
      have hlt1 : w.heap.size + 1 < W2.heap.size := by omega
      have k0 : W2.cell? ⟨w.heap.size, 0, none⟩ = some (.int .i64 0) := (hcc.cell (p := ⟨w.heap.size, 0, none⟩) (by simp)).trans (by rw [HW2.out]; simp [go_sem])
      have g0 : W2.frozen? ⟨w.heap.size, 0, none⟩ = false := (hcc.frozen (p := ⟨w.heap.size, 0, none⟩) (by simp)).trans (by rw [HW2.out]; simp [go_sem])
      have k1 : W2.cell? ⟨w.heap.size, 1, none⟩ = some (.int .i64 0) := (hcc.cell (p := ⟨w.heap.size, 1, none⟩) (by simp)).trans (by rw [HW2.out]; simp [go_sem])
      have g1 : W2.frozen? ⟨w.heap.size, 1, none⟩ = false := (hcc.frozen (p := ⟨w.heap.size, 1, none⟩) (by simp)).trans (by rw [HW2.out]; simp [go_sem])
      have k2 : W2.cell? ⟨w.heap.size, 2, none⟩ = some (.int .i64 0) := (hcc.cell (p := ⟨w.heap.size, 2, none⟩) (by simp)).trans (by rw [HW2.out]; simp [go_sem])
      have g2 : W2.frozen? ⟨w.heap.size, 2, none⟩ = false := (hcc.frozen (p := ⟨w.heap.size, 2, none⟩) (by simp)).trans (by rw [HW2.out]; simp [go_sem])
      have k3 : W2.cell? ⟨w.heap.size, 3, none⟩ = some (.string { data := #[] }) := (hcc.cell (p := ⟨w.heap.size, 3, none⟩) (by simp)).trans (by rw [HW2.out]; simp [go_sem])
      have g3 : W2.frozen? ⟨w.heap.size, 3, none⟩ = false := (hcc.frozen (p := ⟨w.heap.size, 3, none⟩) (by simp)).trans (by rw [HW2.out]; simp [go_sem])
      have k4 : W2.cell? ⟨w.heap.size + 1, 0, none⟩ = some (.int .i64 0) := (hcc.cell (p := ⟨w.heap.size + 1, 0, none⟩) (by simp)).trans (by rw [HW2.out]; simp [go_sem])
      have g4 : W2.frozen? ⟨w.heap.size + 1, 0, none⟩ = false := (hcc.frozen (p := ⟨w.heap.size + 1, 0, none⟩) (by simp)).trans (by rw [HW2.out]; simp [go_sem])
      have k5 : W2.cell? ⟨w.heap.size + 1, 1, none⟩ = some (.int .i64 0) := (hcc.cell (p := ⟨w.heap.size + 1, 1, none⟩) (by simp)).trans (by rw [HW2.out]; simp [go_sem])
      have g5 : W2.frozen? ⟨w.heap.size + 1, 1, none⟩ = false := (hcc.frozen (p := ⟨w.heap.size + 1, 1, none⟩) (by simp)).trans (by rw [HW2.out]; simp [go_sem])
      have k6 : W2.cell? ⟨w.heap.size + 1, 2, none⟩ = some (.slice none 0 0) := (hcc.cell (p := ⟨w.heap.size + 1, 2, none⟩) (by simp)).trans (by rw [HW2.out]; simp [go_sem])
      have g6 : W2.frozen? ⟨w.heap.size + 1, 2, none⟩ = false := (hcc.frozen (p := ⟨w.heap.size + 1, 2, none⟩) (by simp)).trans (by rw [HW2.out]; simp [go_sem])
      clear HW2 hcc
      go_wp2_with fail
      refine jumps_ret ?_
      refine bodyPost_ret (v := .tuple #[.agg #[.int .i64 8, .int .i64 p0, .int .i64 ((p : Int) + 1), .string (bs t)], .agg #[.int .i64 0, .int .i64 0, .slice none 0 0]]) (by simp (maxDischargeDepth := 3) [results, Tryz.results192, go_sem, k0, g0, k1, g1, k2, g2, k3, g3, k4, g4, k5, g5, k6, g6]) rfl ?_
      exact ⟨by rw [HE.out], by have := hbw; exact bel⟩
  case pass =>
    intro l' a' wr hJ
    match l', hJ with
    | 1, hJ =>
      obtain ⟨K, p, v, hs, hf⟩ := hJ
      obtain ⟨f, rfl⟩ := hf.ex
      refine ⟨_, rfl, ?_⟩
      dsimp only
      have HS := Lib.hid hs
      obtain ⟨hK, hWh, hAt, hO, hb⟩ := hs
      have HO := Lib.hid hO
      have HB := Lib.hid hb
      have hzr := hb.size
      have hBr : w.heap.size + 2 ≤ wr.heap.size := by omega
      have HL := Lib.hid (fun k hk => (World.ownsRow.lt hO k hk).1)
      clear hO hb
      rcases Nat.lt_or_ge K t.length with hKt | hKt
      · obtain ⟨x, hx⟩ : ∃ x, t[K]? = some x := ⟨_, List.getElem?_eq_getElem hKt⟩
        rw [drop_at hx] at hWh hAt
        by_cases hsf : selfB x
        · obtain ⟨hn0, hwn⟩ := wh_step (by simp) hWh
          obtain ⟨c1, c2, c3, c4⟩ := char_at hAt.2 hsf (by omega)
          have hAb : At T p (x :: (escs (t.drop (K + 1)) ++ 34 :: Z)) := by rw [escs_cons, esc_self hsf] at hAt; exact hAt
          obtain ⟨hpT, hpx⟩ := hAb.byte
          have e0 : ¬ (p : Int) = T.size := by omega
          have e1 : ¬ ((T[p]'hpT).toNat : Int) = 34 := by rw [hpx]; intro e; have : x = 34 := UInt8.toNat_inj.1 (Int.ofNat.inj e); subst this; exact absurd hsf.1 (by decide)
          have e2 : ¬ ((T[p]'hpT).toNat : Int) < 32 := by rw [hpx]; have := hsf.2; omega
          have e3 : ¬ ((T[p]'hpT).toNat : Int) = 92 := by rw [hpx]; intro e; have : x = 92 := UInt8.toNat_inj.1 (Int.ofNat.inj e); subst this; exact absurd hsf.1 (by decide)
          have h4 := sub4 T p hAt.1
          obtain ⟨S4, hS4⟩ : ∃ s, T.extract p (min ((p : Int) + 4) (T.size : Int)).toNat = s := ⟨_, rfl⟩
          rw [hS4] at h4
          obtain ⟨q4, w4, hcv4, hSb4, hb4, hz4⟩ := conv_bytes S4 wr
          have h4s : S4.size ≤ 1000000 := by rw [← len_data S4, h4, List.length_take]; omega
          have RU := Lib.hid (rune_any (some ⟨wr.heap.size, 0, none⟩) S4.size q4 0 S4.data.toList (len_data S4) h4s w4 hSb4)
          rw [List.drop_zero, h4, c1] at RU
          obtain ⟨n, hn⟩ : ∃ n, (chr (x :: t.drop (K + 1))).2 = n := ⟨_, rfl⟩
          obtain ⟨R, hR⟩ : ∃ n, (chr (x :: t.drop (K + 1))).1 = n := ⟨_, rfl⟩
          have hself := char_self hsf (by omega : 0 < (chr (x :: t.drop (K + 1))).2)
          have hle := (chr_le (x :: t.drop (K + 1))).1
          rw [hn] at RU c2 c3 c4 hn0 hwn hself hle
          rw [hR] at RU
          rw [← drop_at hx] at c2 c4 hwn hle
          have hTl : T.data.toList.length = T.size := len_data T
          have hn1 : 0 < n := by omega
          have e4 : ¬ (n : Int) = 0 := by omega
          have e5 : p + n ≤ T.size := by omega
          have h5 := Lib.extract_data T p (p + n)
          rw [Nat.add_sub_cancel_left, c2] at h5
          obtain ⟨S5, hS5⟩ : ∃ s, T.extract p ((p : Int) + (n : Int)).toNat = s := ⟨_, rfl⟩
          have hS5' : T.extract p (p + n) = S5 := by rw [← hS5, show ((p : Int) + (n : Int)).toNat = p + n by omega]
          rw [hS5'] at h5
          clear hS5'
          have h5s : S5.size = n := by rw [← len_data S5, h5, List.length_take, List.length_drop]; rw [List.length_drop] at hle; omega
          have HN : Hid (K + n ≤ t.length ∧ Wh (t.drop (K + n)) ∧ At T (p + n) (escs (t.drop (K + n)) ++ 34 :: Z) ∧ (t.take K).map (fun z => Value.int .u8 (z.toNat : Int)) ++ Lib.strCells S5 = (t.take (K + n)).map fun z => .int .u8 (z.toNat : Int)) := Lib.hid (by
            rw [List.length_drop] at hle
            rw [List.drop_drop] at c4 hwn
            refine ⟨by omega, hwn, ⟨e5, c4⟩, ?_⟩
            show _ ++ S5.data.toList.map _ = _
            rw [h5, List.take_add, List.map_append])
          have hO4 := Lib.hid (ownsRow_keeps HO.out (fun g hg => hb4.block g (World.ownsRow.lt HO.out g hg).2))
          have HB4 := Lib.hid (HB.out.trans (hb4.mono hBr))
          have hB4 : w.heap.size + 2 ≤ w4.heap.size := by omega
          replace RU : Hid (Calls Tryz.prog 254 #[.slice (some ⟨wr.heap.size, 0, none⟩) S4.size q4, .int .i64 0] w4 _) := RU
          obtain ⟨i0, hi, iz0, iz1, iz2⟩ := hi_u8
          clear hpx hAb h4 hb4 hSb4 c1 c2 c3 c4 hself hle hn hR hwn hn0 h5 hWh hAt hTl
          go_wp2_with fail
          with_reducible refine (RU.out).mono ?_
          rintro e w' ⟨rfl, rfl⟩
          go_wp2_with (at_builtin; go_loud (refine Lib.wpList_append_own_string _ rfl _ _ 24 9 rfl (w.heap.size + 2) 5 i0 Tryz.underlying24 ty_str hi iz0 iz1 iz2 _ K _ rfl hO4.out S5 rfl (by unfold maxLen; omega) (by omega) hB4 ?_; intro v5 w5 hown5 hgrow5 hnil5))
          have hB5 : Below (w.heap.size + 2) W2 w5 := Below.grown HB4.out hgrow5 hB4 (fun k hk => HL.out k hk)
          have HS5 : Hid (TxS T Z t W2 (w.heap.size + 2) (K + n) (p + n) v5 w5) := Lib.hid ⟨HN.out.1, HN.out.2.1, HN.out.2.2.1, by rw [← HN.out.2.2.2, ← h5s]; exact hown5, hB5⟩
          clear hB5 hown5 hgrow5 hnil5
          go_wp2_with fail
          go_step3
          refine ⟨⟨K + n, p + n, v5, HS5.out, rfl⟩, ?_⟩
          show 3 * (T.size - ((p : Int) + (n : Int) : Int).toNat) + 2 < 3 * (T.size - (p : Int).toNat) + 2
          omega
        · have hesc : ∃ y r, esc x = 92 :: y :: r := esc_back hsf
          obtain ⟨y, r, hyr⟩ := hesc
          rw [escs_cons, hyr] at hAt
          obtain ⟨hpT, hpx⟩ := At.byte hAt
          have e0 : ¬ (p : Int) = T.size := by omega
          have e1 : ((T[p]'hpT).toNat : Int) = 92 := by rw [hpx]; rfl
          clear hpx hyr hWh hAt
          go_wp2_with fail
          go_step3
          refine ⟨⟨K, p, v, HS.out, ⟨x, hx, hsf⟩, rfl⟩, ?_⟩
          show 3 * (T.size - ((p : Int) : Int).toNat) + 1 < 3 * (T.size - (p : Int).toNat) + 2
          omega
      · have hKe : K = t.length := by omega
        rw [List.drop_eq_nil_of_le hKt] at hAt
        have hAe : At T p (34 :: Z) := hAt
        obtain ⟨hpT, hpx⟩ := At.byte hAe
        have e0 : ¬ (p : Int) = T.size := by omega
        have e1 : ((T[p]'hpT).toNat : Int) = 34 := by rw [hpx]; rfl
        have hend : ((p0 + (quote t).length : Nat) : Int) = (p : Int) + 1 := by have h1 := hAe.len; have h2 := h.len; simp only [List.length_append, List.length_cons] at h1 h2; omega
        have hO5 : wr.ownsRow (w.heap.size + 2) 5 1 (v) K (t.map fun z => .int .u8 (z.toNat : Int)) := by have h1 := HO.out; rw [List.take_of_length_le hKt] at h1; exact h1
        have hcv := conv_row t hO5
        have HE := Lib.hid hend
        clear hpx hWh hAt hAe hO5 hKe hend
        have hcc := HB.out
        have hbw : Below w.heap.size w wr := Below.trans (by rw [HW2.out]; exact bel) (HB.out.mono (by omega))
        have hlt0 : w.heap.size < wr.heap.size := by omega
        have hlt1 : w.heap.size + 1 < wr.heap.size := by omega
        have k0 : wr.cell? ⟨w.heap.size, 0, none⟩ = some (.int .i64 0) := (hcc.cell (p := ⟨w.heap.size, 0, none⟩) (by simp)).trans (by rw [HW2.out]; simp [go_sem])
        have g0 : wr.frozen? ⟨w.heap.size, 0, none⟩ = false := (hcc.frozen (p := ⟨w.heap.size, 0, none⟩) (by simp)).trans (by rw [HW2.out]; simp [go_sem])
        have k1 : wr.cell? ⟨w.heap.size, 1, none⟩ = some (.int .i64 0) := (hcc.cell (p := ⟨w.heap.size, 1, none⟩) (by simp)).trans (by rw [HW2.out]; simp [go_sem])
        have g1 : wr.frozen? ⟨w.heap.size, 1, none⟩ = false := (hcc.frozen (p := ⟨w.heap.size, 1, none⟩) (by simp)).trans (by rw [HW2.out]; simp [go_sem])
        have k2 : wr.cell? ⟨w.heap.size, 2, none⟩ = some (.int .i64 0) := (hcc.cell (p := ⟨w.heap.size, 2, none⟩) (by simp)).trans (by rw [HW2.out]; simp [go_sem])
        have g2 : wr.frozen? ⟨w.heap.size, 2, none⟩ = false := (hcc.frozen (p := ⟨w.heap.size, 2, none⟩) (by simp)).trans (by rw [HW2.out]; simp [go_sem])
        have k3 : wr.cell? ⟨w.heap.size, 3, none⟩ = some (.string { data := #[] }) := (hcc.cell (p := ⟨w.heap.size, 3, none⟩) (by simp)).trans (by rw [HW2.out]; simp [go_sem])
        have g3 : wr.frozen? ⟨w.heap.size, 3, none⟩ = false := (hcc.frozen (p := ⟨w.heap.size, 3, none⟩) (by simp)).trans (by rw [HW2.out]; simp [go_sem])
        have k4 : wr.cell? ⟨w.heap.size + 1, 0, none⟩ = some (.int .i64 0) := (hcc.cell (p := ⟨w.heap.size + 1, 0, none⟩) (by simp)).trans (by rw [HW2.out]; simp [go_sem])
        have g4 : wr.frozen? ⟨w.heap.size + 1, 0, none⟩ = false := (hcc.frozen (p := ⟨w.heap.size + 1, 0, none⟩) (by simp)).trans (by rw [HW2.out]; simp [go_sem])
        have k5 : wr.cell? ⟨w.heap.size + 1, 1, none⟩ = some (.int .i64 0) := (hcc.cell (p := ⟨w.heap.size + 1, 1, none⟩) (by simp)).trans (by rw [HW2.out]; simp [go_sem])
        have g5 : wr.frozen? ⟨w.heap.size + 1, 1, none⟩ = false := (hcc.frozen (p := ⟨w.heap.size + 1, 1, none⟩) (by simp)).trans (by rw [HW2.out]; simp [go_sem])
        have k6 : wr.cell? ⟨w.heap.size + 1, 2, none⟩ = some (.slice none 0 0) := (hcc.cell (p := ⟨w.heap.size + 1, 2, none⟩) (by simp)).trans (by rw [HW2.out]; simp [go_sem])
        have g6 : wr.frozen? ⟨w.heap.size + 1, 2, none⟩ = false := (hcc.frozen (p := ⟨w.heap.size + 1, 2, none⟩) (by simp)).trans (by rw [HW2.out]; simp [go_sem])
        clear HW2 hcc
        go_wp2_with fail
        refine jumps_ret ?_
        refine bodyPost_ret (v := .tuple #[.agg #[.int .i64 8, .int .i64 p0, .int .i64 ((p : Int) + 1), .string (bs t)], .agg #[.int .i64 0, .int .i64 0, .slice none 0 0]]) (by simp (maxDischargeDepth := 3) [results, Tryz.results192, go_sem, k0, g0, k1, g1, k2, g2, k3, g3, k4, g4, k5, g5, k6, g6]) rfl ?_
        exact ⟨by rw [HE.out], by have := hbw; exact bel⟩
    | 2, hJ =>
      obtain ⟨K, p, v, hs, ⟨x, hx, hsf⟩, hf⟩ := hJ
      obtain ⟨f, rfl⟩ := hf.ex
      refine ⟨_, rfl, ?_⟩
      dsimp only
      have HS := Lib.hid hs
      obtain ⟨hK, hWh, hAt, hO, hb⟩ := hs
      have HO := Lib.hid hO
      have HB := Lib.hid hb
      have hzr := hb.size
      have hBr : w.heap.size + 2 ≤ wr.heap.size := by omega
      have HL := Lib.hid (fun k hk => (World.ownsRow.lt hO k hk).1)
      clear hO hb
      have hKt : K < t.length := (List.getElem?_eq_some_iff.1 hx).1
      rw [drop_at hx] at hWh hAt
      obtain ⟨i0, hi, iz0, iz1, iz2⟩ := hi_u8
      cases he : escTo x with
      | some d =>
        have hxl := esc_low he
        have hAb : At T p (92 :: d :: (escs (t.drop (K + 1)) ++ 34 :: Z)) := by
          rw [escs_cons, show esc x = [92, d] by unfold esc; rw [he]] at hAt; exact hAt
        obtain ⟨hpT, hpx⟩ := hAb.byte
        obtain ⟨hpT2, hpx2⟩ := hAb.next.byte
        have hA2 := hAb.next.next
        have hwn := (wh_ascii (by omega)).1 hWh
        have e0 : ¬ (p : Int) + 1 = T.size := by omega
        have e1 : ((T[p + 1]'hpT2).toNat : Int) = (d.toNat : Int) := by rw [hpx2]
        have e2 : ¬ (d.toNat : Int) = 117 := by have := esc_d he; omega
        have e3 : ¬ (x.toNat : Int) = 0 := by omega
        have SG := Lib.hid (sign_any he)
        have HN : Hid (Wh (t.drop (K + 1)) ∧ At T (p + 2) (escs (t.drop (K + 1)) ++ 34 :: Z) ∧ (t.take K).map (fun z => Value.int .u8 (z.toNat : Int)) ++ [.int .u8 (x.toNat : Int)] = (t.take (K + 1)).map fun z => .int .u8 (z.toNat : Int)) := Lib.hid ⟨hwn, hA2, by rw [List.take_add_one, hx]; simp⟩
        clear hpx hpx2 hAb hA2 hwn hWh hAt he
        go_wp2_with fail
        with_reducible refine (SG.out _).mono ?_
        rintro e w' ⟨rfl, rfl⟩
        go_wp2_with (at_builtin; go_loud (refine wpList_append_lies _ rfl _ _ 24 rfl (w.heap.size + 2) 5 i0 _ 1 1 Tryz.underlying24 hi iz0 iz1 iz2 rfl (by decide) _ K _ rfl (World.ownsRow.alloc HO.out _) ⟨wr.heap.size, 0, none⟩ 1 1 [.int .u8 (x.toNat : Int)] rfl rfl (World.news_of_block (cs := #[.int .u8 (x.toNat : Int)]) (heap_alloc_last wr _)) one_u8y (by decide) (by unfold maxLen; omega) (by omega) (by simp; omega) _ rfl ?_; intro g7 cap7 w7 hown7 hgrow7 hat7 hlt7))
        have hB7 : Below (w.heap.size + 2) W2 w7 := Below.grown (HB.out.alloc (by omega) _) hgrow7 (by simp; omega) (fun k hk => HL.out k hk)
        have HS7 : Hid (TxS T Z t W2 (w.heap.size + 2) (K + 1) (p + 2) (.slice (some ⟨g7, 0, none⟩) (K + 1) cap7) w7) := Lib.hid ⟨by omega, HN.out.1, HN.out.2.1, by rw [← HN.out.2.2]; exact hown7, hB7⟩
        clear hB7 hown7 hgrow7 hat7
        go_wp2_with fail
        go_step3
        refine ⟨⟨K + 1, p + 2, _, HS7.out, rfl⟩, ?_⟩
        show 3 * (T.size - ((p : Int) + 2 : Int).toNat) + 2 < 3 * (T.size - (p : Int).toNat) + 1
        omega
      | none =>
        have h32 : x.toNat < 32 := by
          rcases Nat.lt_or_ge x.toNat 32 with h1 | h1
          · exact h1
          · exact absurd ⟨he, h1⟩ hsf
        have hAb : At T p (92 :: 117 :: (48 :: 48 :: hexD (x.toNat / 16) :: hexD (x.toNat % 16) :: (escs (t.drop (K + 1)) ++ 34 :: Z))) := by
          rw [escs_cons, esc_ctl he h32] at hAt; exact hAt
        obtain ⟨hpT2, hpx2⟩ := hAb.next.byte
        have hpT := hAb.next.1
        have e0 : ¬ (p : Int) + 1 = T.size := by omega
        have e1 : ((T[p + 1]'hpT2).toNat : Int) = 117 := by rw [hpx2]; rfl
        clear hpx2 hAb hWh hAt
        go_wp2_with fail
        go_step3
        refine ⟨⟨K, p, v, HS.out, ⟨x, hx, he, h32⟩, rfl⟩, ?_⟩
        show 3 * (T.size - ((p : Int) : Int).toNat) + 0 < 3 * (T.size - (p : Int).toNat) + 1
        omega
    | 3, hJ =>
      obtain ⟨K, p, v, hs, ⟨x, hx, he, h32⟩, hf⟩ := hJ
      obtain ⟨f, rfl⟩ := hf.ex
      refine ⟨_, rfl, ?_⟩
      dsimp only
      have HS := Lib.hid hs
      obtain ⟨hK, hWh, hAt, hO, hb⟩ := hs
      have HO := Lib.hid hO
      have HB := Lib.hid hb
      have hzr := hb.size
      have hBr : w.heap.size + 2 ≤ wr.heap.size := by omega
      have HL := Lib.hid (fun k hk => (World.ownsRow.lt hO k hk).1)
      clear hO hb
      have hKt : K < t.length := (List.getElem?_eq_some_iff.1 hx).1
      rw [drop_at hx] at hWh hAt
      obtain ⟨i0, hi, iz0, iz1, iz2⟩ := hi_u8
      have hAb : At T p ([92, 117, 48, 48, hexD (x.toNat / 16), hexD (x.toNat % 16)] ++ (escs (t.drop (K + 1)) ++ 34 :: Z)) := by
        rw [escs_cons, esc_ctl he h32] at hAt; exact hAt
      have hA2 : At T (p + 6) _ := hAb.more
      have hwn := (wh_ascii (by omega)).1 hWh
      have hp6 := hA2.1
      have CO : Hid (∀ w : World, Calls Tryz.prog 256 #[.string T, .int .i64 ((p : Int) + 2)] w fun e w' => e = .returned (.tuple #[.int .i64 (x.toNat : Int), .int .i64 4]) ∧ w = w') := Lib.hid (fun w => by
        have hd : ∀ j, hx4 x.toNat j < 16 := hx4_lt x.toNat (by omega)
        have h := code_any T hT (p + 2) (hx4 x.toNat) hd (by omega) (fun j hj => by
          have h1 := hAb.next.next
          rcases (by omega : j = 0 ∨ j = 1 ∨ j = 2 ∨ j = 3) with rfl | rfl | rfl | rfl
          · exact h1.byte.2
          · exact h1.next.byte.2
          · exact h1.next.next.byte.2
          · exact h1.next.next.next.byte.2) w
        rw [hx4_val x.toNat (by omega)] at h
        exact h)
      have PU := Lib.hid (fun w => lput_low (x.toNat : Int) (by omega) (by omega) w)
      have HN : Hid (Wh (t.drop (K + 1)) ∧ At T (p + 6) (escs (t.drop (K + 1)) ++ 34 :: Z) ∧ (t.take K).map (fun z => Value.int .u8 (z.toNat : Int)) ++ [.int .u8 (x.toNat : Int)] = (t.take (K + 1)).map fun z => .int .u8 (z.toNat : Int)) := Lib.hid ⟨hwn, hA2, by rw [List.take_add_one, hx]; simp⟩
      obtain ⟨X, hX⟩ : ∃ X : Int, (x.toNat : Int) = X := ⟨_, rfl⟩
      have hX0 : 0 ≤ X := by omega
      have hX1 : X < 32 := by omega
      have e0 : ¬ 55296 ≤ X := by omega
      rw [hX] at CO PU HN
      clear hAb hA2 hwn hWh hAt he h32 hX
      go_wp2_with fail
      with_reducible refine (CO.out _).mono ?_
      rintro e w' ⟨rfl, rfl⟩
      go_wp2_with fail
      with_reducible refine (PU.out _).mono ?_
      rintro e w' ⟨rfl, rfl⟩
      go_wp2_with (at_builtin; go_loud (refine wpList_append_lies _ rfl _ _ 24 rfl (w.heap.size + 2) 5 i0 _ 1 1 Tryz.underlying24 hi iz0 iz1 iz2 rfl (by decide) _ K _ rfl (World.ownsRow.alloc HO.out _) ⟨wr.heap.size, 0, none⟩ 1 1 [.int .u8 X] rfl rfl (World.news_of_block (cs := #[.int .u8 X]) (heap_alloc_last wr _)) one_u8y (by decide) (by unfold maxLen; omega) (by omega) (by simp; omega) _ rfl ?_; intro g7 cap7 w7 hown7 hgrow7 hat7 hlt7))
      have hB7 : Below (w.heap.size + 2) W2 w7 := Below.grown (HB.out.alloc (by omega) _) hgrow7 (by simp; omega) (fun k hk => HL.out k hk)
      have HS7 : Hid (TxS T Z t W2 (w.heap.size + 2) (K + 1) (p + 6) (.slice (some ⟨g7, 0, none⟩) (K + 1) cap7) w7) := Lib.hid ⟨by omega, HN.out.1, HN.out.2.1, by rw [← HN.out.2.2]; exact hown7, hB7⟩
      clear hB7 hown7 hgrow7 hat7
      go_wp2_with fail
      go_step3
      refine ⟨⟨K + 1, p + 6, _, HS7.out, rfl⟩, ?_⟩
      show 3 * (T.size - ((p : Int) + 6 : Int).toNat) + 2 < 3 * (T.size - (p : Int).toNat) + 0
      omega
end
end Go.Proofs.YtihnfhhopldllaaGreatDoor
