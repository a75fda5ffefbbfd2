/- Parts of the proof of TopLooks: U42. No condition. -/
import Derived.Test.YtihnfhhopldllaaGreatDoorJ1
import Derived.Test.YtihnfhhopldllaaGreatDoorJ17
namespace Go.Proofs.YtihnfhhopldllaaGreatDoor
set_option linter.unusedSimpArgs false
set_option linter.unusedVariables false
set_option maxHeartbeats 6400000
set_option maxRecDepth 100000
section
open Go.RowKit
theorem drop_at' {α : Type} {l : List α} {j : Nat} {Y : α} (h : l[j]? = some Y) : l.drop j = Y :: l.drop (j + 1) := by
  obtain ⟨hj, e⟩ := List.getElem?_eq_some_iff.1 h
  rw [List.drop_eq_getElem_cons hj, e]
theorem at_firstO {T : ByteArray} {p k : Nat} {l : KL} {Z : List UInt8} (hl : ¬ l = []) (h : At T p (prJ (k + 1) (jO l) ++ Z)) : ∃ x0, l[0]? = some x0 ∧ At T (p + 1) (itO k x0 ++ tl (itO k) (l.drop 1) 125 Z) := by
  cases l with
  | nil => exact absurd rfl hl
  | cons x l => exact ⟨x, rfl, at_objC h⟩
theorem at_firstA {T : ByteArray} {p k : Nat} {l : KL} {Z : List UInt8} (hl : ¬ l = []) (h : At T p (prJ (k + 1) (jA l) ++ Z)) : ∃ x0, l[0]? = some x0 ∧ At T (p + 1) (itA k x0 ++ tl (itA k) (l.drop 1) 93 Z) := by
  cases l with
  | nil => exact absurd rfl hl
  | cons x l => exact ⟨x, rfl, at_arrC h⟩
theorem kids_O (T : ByteArray) (hT : T.size ≤ 1000000) (k : Nat) (l : KL) (hl : l.length ≤ 20) (hq : ∀ x ∈ l, x.1.length ≤ 200 ∧ Wh x.1 ∧ Jq k x.2) (ih : ∀ x ∈ l, PVal T k x.2) (p : Nat) (Z : List UInt8) (h : At T p (prJ (k + 1) (jO l) ++ Z)) (g : Nat) (D wi : Int) (hwi0 : 0 ≤ wi) (hwi1 : wi + k ≤ D) (hD : D ≤ 1000) (w : World) (hP : Prs w g T (p + 1) D) :
    Calls Tryz.prog 115 #[.pointer (some ⟨g, 0, none⟩), .int .i64 2, .int .i64 wi] w fun e w' => (∃ v, e = .returned (.tuple #[v, .agg #[.int .i64 0, .int .i64 0, .slice none 0 0]]) ∧ Kd .J (fun b => w.heap.size ≤ b) w' (k + 1) l v) ∧ Prs w' g T (p + (prJ (k + 1) (jO l)).length) D ∧ w.grownBy w' (some g) := by
  have HM := Lib.hid hl
  have HQ := Lib.hid hq
  have HI := Lib.hid ih
  have hg := hP.lt
  obtain ⟨i0, hi, iz0, iz1, iz2⟩ := hi_member
  obtain ⟨F, hF⟩ : ∃ F, p + (prJ (k + 1) (jO l)).length = F := ⟨_, rfl⟩
  have HF : Hid (F + Z.length = T.size) := Lib.hid (by have := h.len; rw [List.length_append] at this; omega)
  rw [hF]
  clear hF hq ih hl
  by_cases hl0 : l = []
  · subst hl0
    have hA := at_objN h
    obtain ⟨q6, hq6⟩ : ∃ x, p + 1 + 1 = x := ⟨_, rfl⟩
    have hN := next_125 T hT (p + 1) Z hA
    rw [hq6] at hN
    have H1 := Lib.hid (fun w hP => pnext_any hN g D w hP)
    have hFe : F = q6 := by have := HF.out; have := hA.len; simp only [List.length_cons] at this; omega
    subst hFe
    clear hA hN h hq6
    go_enter Tryz.func115, Tryz.ntmps115
    go_wp2_with fail
    with_reducible refine (H1.out _ ?hp1).mono ?_
    case hp1 => repeat' (first | (with_reducible assumption) | (with_reducible refine Prs.drew ?_) | (with_reducible refine Prs.other ?_ (by dsimp only; omega) _) | (with_reducible refine Prs.alloc ?_ _))
    rintro e w1 ⟨rfl, hP1, hb1⟩
    obtain ⟨c1_0, f1_0⟩ := cfG hb1 w.heap.size 0 (.int .i64 0)
    obtain ⟨c1_1, f1_1⟩ := cfG hb1 w.heap.size 1 (.int .i64 0)
    obtain ⟨c1_2, f1_2⟩ := cfG hb1 w.heap.size 2 (.slice none 0 0)
    have hs1 := hb1.size
    (try simp at hs1)
    have hl1_0 : w.heap.size < w1.heap.size := by first | omega | (simp at hs1; omega)
    have hw1 : w.grownBy w1 (some g) := grown_trans (by repeat' (first | (with_reducible assumption) | (with_reducible exact grown_refl _ _) | (with_reducible refine grown_drew ?_) | (with_reducible refine grown_set ?_ (by dsimp only; omega) _) | (with_reducible refine grown_alloc ?_ _))) hb1
    have hz1 := hw1.size
    clear hb1 hs1
    go_wp2_with fail
    have hn0 : w.heap.size ≠ w1.heap.size := by omega
    have hn1 : w.heap.size ≠ w1.heap.size + 1 := by omega
    have hn2 : w.heap.size < w1.heap.size + 1 := by omega
    refine bodyPost_ret (v := .tuple #[.slice none 0 0, .agg #[.int .i64 0, .int .i64 0, .slice none 0 0]]) (by simp (maxDischargeDepth := 4) [results, Tryz.results115, go_sem, c1_0, f1_0, c1_1, f1_1, c1_2, f1_2, hn0, hn1, hn2, hl1_0]) rfl ?_
    refine ⟨⟨_, rfl, Kd.nil _ _ _ _ _ _⟩, ?_, ?_⟩
    · repeat' (first | (with_reducible assumption) | (with_reducible refine Prs.drew ?_) | (with_reducible refine Prs.other ?_ (by dsimp only; omega) _) | (with_reducible refine Prs.alloc ?_ _))
    · repeat' (first | (with_reducible assumption) | (with_reducible exact grown_refl _ _) | (with_reducible refine grown_drew ?_) | (with_reducible refine grown_set ?_ (by dsimp only; omega) _) | (with_reducible refine grown_alloc ?_ _))
  · obtain ⟨x0, hx0, hA⟩ := at_firstO hl0 h
    have hmem0 := List.mem_of_getElem? hx0
    have hqx0 := HQ.out _ hmem0
    have hN : Nx T (p + 1) 8 (p + 1 + (quote x0.1).length) (bs x0.1) := fun w => next_str T hT (p + 1) x0.1 (58 :: prJ k x0.2 ++ tl (itO k) (l.drop 1) 125 Z) hqx0.1 hqx0.2.1 (by simpa [itO] using hA) w
    obtain ⟨q1, hq1⟩ : ∃ x, p + 1 + (quote x0.1).length = x := ⟨_, rfl⟩
    obtain ⟨nm0, hnm0⟩ : ∃ x, bs x0.1 = x := ⟨_, rfl⟩
    rw [hq1, hnm0] at hN
    have H1 := Lib.hid (fun w hP => pnext_any hN g D w hP)
    have HS0 := Lib.hid (And.intro hq1.symm hnm0)
    clear hN hq1 hnm0 hqx0 hmem0
    obtain ⟨m, hm⟩ : ∃ m, l.length = m := ⟨_, rfl⟩
    have HLm := Lib.hid hm
    have hm20 : m ≤ 20 := by have := HM.out; omega
    have hm0 : 0 < m := by rw [← hm]; exact List.length_pos_iff.2 hl0
    clear h hm
    go_enter Tryz.func115, Tryz.ntmps115
    go_wp2_with fail
    with_reducible refine (H1.out _ ?hp1).mono ?_
    case hp1 => repeat' (first | (with_reducible assumption) | (with_reducible refine Prs.drew ?_) | (with_reducible refine Prs.other ?_ (by dsimp only; omega) _) | (with_reducible refine Prs.alloc ?_ _))
    rintro e w1 ⟨rfl, hP1, hb1⟩
    obtain ⟨c1_0, f1_0⟩ := cfG hb1 w.heap.size 0 (.int .i64 0)
    obtain ⟨c1_1, f1_1⟩ := cfG hb1 w.heap.size 1 (.int .i64 0)
    obtain ⟨c1_2, f1_2⟩ := cfG hb1 w.heap.size 2 (.slice none 0 0)
    have hs1 := hb1.size
    (try simp at hs1)
    have hl1_0 : w.heap.size < w1.heap.size := by first | omega | (simp at hs1; omega)
    have hw1 : w.grownBy w1 (some g) := grown_trans (by repeat' (first | (with_reducible assumption) | (with_reducible exact grown_refl _ _) | (with_reducible refine grown_drew ?_) | (with_reducible refine grown_set ?_ (by dsimp only; omega) _) | (with_reducible refine grown_alloc ?_ _))) hb1
    have hz1 := hw1.size
    clear hb1 hs1
    go_wp2_with fail
    obtain ⟨B, hB⟩ : ∃ B, B = w1.heap.size + 2 := ⟨_, rfl⟩
    have HB := Lib.hid hB
    have hB1 : w1.heap.size + 1 < B := by omega
    clear hB
    go_loopw [8] (fun v wr => ∃ (K q q1 : Nat) (nm : ByteArray) (V : Value), K < m ∧ V = v ∧ lenOf V = K ∧ (wr.cell? ⟨w.heap.size, 0, none⟩ = some (.int .i64 0) ∧ wr.frozen? ⟨w.heap.size, 0, none⟩ = false ∧ wr.cell? ⟨w.heap.size, 1, none⟩ = some (.int .i64 0) ∧ wr.frozen? ⟨w.heap.size, 1, none⟩ = false ∧ wr.cell? ⟨w.heap.size, 2, none⟩ = some (.slice none 0 0) ∧ wr.frozen? ⟨w.heap.size, 2, none⟩ = false ∧ wr.cell? ⟨w1.heap.size, 0, none⟩ = some (.int .i64 8) ∧ wr.frozen? ⟨w1.heap.size, 0, none⟩ = false ∧ wr.cell? ⟨w1.heap.size, 1, none⟩ = some (.int .i64 q) ∧ wr.frozen? ⟨w1.heap.size, 1, none⟩ = false ∧ wr.cell? ⟨w1.heap.size, 2, none⟩ = some (.int .i64 q1) ∧ wr.frozen? ⟨w1.heap.size, 2, none⟩ = false ∧ wr.cell? ⟨w1.heap.size, 3, none⟩ = some (.string nm) ∧ wr.frozen? ⟨w1.heap.size, 3, none⟩ = false ∧ wr.cell? ⟨w1.heap.size + 1, 0, none⟩ = some (.int .i64 0) ∧ wr.frozen? ⟨w1.heap.size + 1, 0, none⟩ = false ∧ wr.cell? ⟨w1.heap.size + 1, 1, none⟩ = some (.int .i64 0) ∧ wr.frozen? ⟨w1.heap.size + 1, 1, none⟩ = false ∧ wr.cell? ⟨w1.heap.size + 1, 2, none⟩ = some (.slice none 0 0) ∧ wr.frozen? ⟨w1.heap.size + 1, 2, none⟩ = false) ∧ Hid (KsO T Z l k w g D B K q q1 nm V wr)) (fun v _ => m - lenOf v)
    case atStart =>
      refine ⟨0, p + 1, q1, _, _, hm0, rfl, rfl, ⟨?_, ?_, ?_, ?_, ?_, ?_, ?_, ?_, ?_, ?_, ?_, ?_, ?_, ?_, ?_, ?_, ?_, ?_, ?_, ?_⟩, Lib.hid ⟨x0, hx0, hA, HS0.out.1, HS0.out.2, ?_, Bd.nil _ _ _ _ _, ?_, ?_⟩⟩
      all_goals first | (simp [go_sem, *]; done) | skip
      · repeat' (first | (with_reducible assumption) | (with_reducible refine Prs.drew ?_) | (with_reducible refine Prs.other ?_ (by dsimp only; omega) _) | (with_reducible refine Prs.alloc ?_ _))
      · repeat' (first | (with_reducible assumption) | (with_reducible exact grown_refl _ _) | (with_reducible refine grown_drew ?_) | (with_reducible refine grown_set ?_ (by dsimp only; omega) _) | (with_reducible refine grown_alloc ?_ _))
      · have := HB.out; simp; omega
    case round =>
      obtain ⟨K, q, q1, nm, V, hK, rfl, hlen, ⟨k0, kf0, k1, kf1, k2, kf2, k3, kf3, k4, kf4, k5, kf5, k6, kf6, k7, kf7, k8, kf8, k9, kf9⟩, HKS⟩ := hrel
      have hKS := HKS.out
      obtain ⟨⟨kn, kx⟩, hkx, hAt, hq1, hnm, hPr, hBd, hGr, hBr⟩ := hKS
      obtain ⟨ss, hs1, hs2, hs3⟩ := hBd
      have hVg := World.ownsRow.lt hs2
      have hzr := hGr.size
      have hL0 : w.heap.size < wr.heap.size := by omega
      have hL1 : w1.heap.size < wr.heap.size := by omega
      have hL2 : w1.heap.size + 1 < wr.heap.size := by omega
      have hL3 : w.heap.size ≠ wr.heap.size := by omega
      have hL4 : w1.heap.size ≠ wr.heap.size := by omega
      have hL5 : w1.heap.size + 1 ≠ wr.heap.size := by omega
      have hL6 : w.heap.size ≠ w1.heap.size := by omega
      have hL7 : w.heap.size ≠ w1.heap.size + 1 := by omega
      have HLn : Hid ((l.take K).length = K) := Lib.hid (by rw [List.length_take]; have := HLm.out; omega)
      have HTK : Hid (l.take (K + 1) = l.take K ++ [(kn, kx)]) := Lib.hid (by rw [List.take_add_one, hkx]; rfl)
      obtain ⟨V1, hV1⟩ : ∃ x, kx.o.kind = x := ⟨_, rfl⟩
      obtain ⟨V2, hV2⟩ : ∃ x, bs kx.o.text = x := ⟨_, rfl⟩
      obtain ⟨V3, hV3⟩ : ∃ x, kx.kids.length = x := ⟨_, rfl⟩
      have HV1 := Lib.hid hV1
      have HV2 := Lib.hid hV2
      have HV3 := Lib.hid hV3
      clear hV1 hV2 hV3
      have hmem := List.mem_of_getElem? hkx
      have hqx : kn.length ≤ 200 ∧ Wh kn ∧ Jq k kx := HQ.out _ hmem
      have hpv : PVal T k kx := HI.out _ hmem
      obtain ⟨R, hR⟩ : ∃ R, tl (itO k) (l.drop (K + 1)) 125 Z = R := ⟨_, rfl⟩
      rw [hR] at hAt
      have hA1 : At T q1 (58 :: (prJ k kx ++ R)) := by rw [hq1]; exact At.more (by simpa [itO] using hAt)
      have hA2 := hA1.next
      have hN58 := next_58 T hT q1 _ hA1
      obtain ⟨q2, hq2⟩ : ∃ x, q1 + 1 = x := ⟨_, rfl⟩
      rw [hq2] at hA2 hN58
      have hAR := hA2.more
      obtain ⟨kd2, hkd2⟩ : ∃ x, tokK kx = x := ⟨_, rfl⟩
      obtain ⟨q3, hq3⟩ : ∃ x, tokE kx q2 = x := ⟨_, rfl⟩
      have HNM := fun (w : World) (hP : Prs w g T q1 D) => pnamed_any (tn := nm) hN58 (nx_first hT hqx.2.2 hA2) q q1 g D w hP
      have HVL := fun (w : World) hP => hpv q2 R hA2 g D wi w hP hwi0 hwi1 hD
      rw [hkd2, hq3, HV2.out] at HNM HVL
      replace HNM := Lib.hid HNM
      clear hkd2 hq3 hq2 hN58 hA1 hA2
      obtain ⟨q5, hq5⟩ : ∃ x, q2 + (prJ k kx).length = x := ⟨_, rfl⟩
      rw [hq5] at hAR HVL
      replace HVL := Lib.hid HVL
      have HV0 := Lib.hid hnm
      clear hq5 hmem hkx hpv hqx hAt hq1 hnm
      go_upto_region 7 with fail
      go_wp2_with fail
      with_reducible refine (HNM.out _ ?hp3).mono ?_
      case hp3 => repeat' (first | (with_reducible assumption) | (with_reducible refine Prs.drew ?_) | (with_reducible refine Prs.other ?_ (by dsimp only; omega) _) | (with_reducible refine Prs.alloc ?_ _))
      rintro e w3 ⟨rfl, hP3, hb3⟩
      have hK3 : Keeps (fun b => B ≤ b) wr w3 := keeps_row (by repeat' (first | (with_reducible assumption) | (with_reducible exact Keeps.refl _ _) | (with_reducible refine keeps_drew ?_) | (with_reducible refine keeps_set ?_ (by dsimp only; omega) _) | (with_reducible refine keeps_alloc ?_ _))) hb3 (by show ¬ B ≤ g; omega)
      obtain ⟨c3_0, f3_0⟩ := cfG hb3 w.heap.size 0 (.int .i64 0)
      obtain ⟨c3_1, f3_1⟩ := cfG hb3 w.heap.size 1 (.int .i64 0)
      obtain ⟨c3_2, f3_2⟩ := cfG hb3 w.heap.size 2 (.slice none 0 0)
      obtain ⟨c3_3, f3_3⟩ := cfG hb3 w1.heap.size 0 (.int .i64 8)
      obtain ⟨c3_4, f3_4⟩ := cfG hb3 w1.heap.size 1 (.int .i64 q)
      obtain ⟨c3_5, f3_5⟩ := cfG hb3 w1.heap.size 2 (.int .i64 q1)
      obtain ⟨c3_6, f3_6⟩ := cfG hb3 w1.heap.size 3 (.string nm)
      obtain ⟨c3_7, f3_7⟩ := cfG hb3 (w1.heap.size + 1) 0 (.int .i64 0)
      obtain ⟨c3_8, f3_8⟩ := cfG hb3 (w1.heap.size + 1) 1 (.int .i64 0)
      obtain ⟨c3_9, f3_9⟩ := cfG hb3 (w1.heap.size + 1) 2 (.slice none 0 0)
      obtain ⟨c3_10, f3_10⟩ := cfG hb3 wr.heap.size 0 (.string nm)
      obtain ⟨c3_11, f3_11⟩ := cfG hb3 wr.heap.size 1 (.int .i64 0)
      obtain ⟨c3_12, f3_12⟩ := cfG hb3 wr.heap.size 2 (.string { data := #[] })
      obtain ⟨c3_13, f3_13⟩ := cfG hb3 wr.heap.size 3 (.slice none 0 0)
      have hs3 := hb3.size
      (try simp at hs3)
      have hl3_0 : w.heap.size < w3.heap.size := by first | omega | (simp at hs3; omega)
      have hl3_1 : w1.heap.size < w3.heap.size := by first | omega | (simp at hs3; omega)
      have hl3_2 : w1.heap.size + 1 < w3.heap.size := by first | omega | (simp at hs3; omega)
      have hl3_3 : wr.heap.size < w3.heap.size := by first | omega | (simp at hs3; omega)
      have hw3 : w.grownBy w3 (some g) := grown_trans (by repeat' (first | (with_reducible assumption) | (with_reducible exact grown_refl _ _) | (with_reducible refine grown_drew ?_) | (with_reducible refine grown_set ?_ (by dsimp only; omega) _) | (with_reducible refine grown_alloc ?_ _))) hb3
      have hz3 := hw3.size
      clear hb3 hs3
      go_upto_region 12 with fail
      go_cut [] from 30 to 85 (fun W => ∃ jad jc, (W.cell? ⟨w.heap.size, 0, none⟩ = some (.int .i64 0) ∧ W.frozen? ⟨w.heap.size, 0, none⟩ = false ∧ W.cell? ⟨w.heap.size, 1, none⟩ = some (.int .i64 0) ∧ W.frozen? ⟨w.heap.size, 1, none⟩ = false ∧ W.cell? ⟨w.heap.size, 2, none⟩ = some (.slice none 0 0) ∧ W.frozen? ⟨w.heap.size, 2, none⟩ = false ∧ W.cell? ⟨w1.heap.size, 0, none⟩ = some (.int .i64 kd2) ∧ W.frozen? ⟨w1.heap.size, 0, none⟩ = false ∧ W.cell? ⟨w1.heap.size, 1, none⟩ = some (.int .i64 q2) ∧ W.frozen? ⟨w1.heap.size, 1, none⟩ = false ∧ W.cell? ⟨w1.heap.size, 2, none⟩ = some (.int .i64 q3) ∧ W.frozen? ⟨w1.heap.size, 2, none⟩ = false ∧ W.cell? ⟨w1.heap.size, 3, none⟩ = some (.string V2) ∧ W.frozen? ⟨w1.heap.size, 3, none⟩ = false ∧ W.cell? ⟨w1.heap.size + 1, 0, none⟩ = some (.int .i64 0) ∧ W.frozen? ⟨w1.heap.size + 1, 0, none⟩ = false ∧ W.cell? ⟨w1.heap.size + 1, 1, none⟩ = some (.int .i64 0) ∧ W.frozen? ⟨w1.heap.size + 1, 1, none⟩ = false ∧ W.cell? ⟨w1.heap.size + 1, 2, none⟩ = some (.slice none 0 0) ∧ W.frozen? ⟨w1.heap.size + 1, 2, none⟩ = false) ∧ (W.cell? ⟨wr.heap.size, 0, none⟩ = some (.string nm) ∧ W.cell? ⟨wr.heap.size, 1, none⟩ = some (.int .i64 V1) ∧ W.cell? ⟨wr.heap.size, 2, none⟩ = some (.string V2) ∧ W.cell? ⟨wr.heap.size, 3, none⟩ = some (.slice jad V3 jc)) ∧ Prs W g T q5 D ∧ w.grownBy W (some g) ∧ Keeps (fun b => B ≤ b) wr W ∧ Hid (Kd .J (fun b => wr.heap.size < b) W k kx.kids (.slice jad V3 jc)) ∧ wr.heap.size < W.heap.size)
      case first =>
        go_wp2_with fail
        with_reducible refine (HVL.out _ ?hp2).mono ?_
        case hp2 => repeat' (first | (with_reducible assumption) | (with_reducible refine Prs.drew ?_) | (with_reducible refine Prs.other ?_ (by dsimp only; omega) _) | (with_reducible refine Prs.alloc ?_ _))
        rintro e w2 ⟨⟨jv, rfl, hj⟩, hP2, hb2⟩
        have hj2 : Is .J (fun b => wr.heap.size < b) w2 k kx jv := hj.mono (fun b hb _ => by simp at hb; omega)
        clear hj
        obtain ⟨jad, jc, rfl⟩ := isJ_form hj2
        have hk2 := isJ_kids hj2
        clear hj2
        simp only [HV1.out, HV2.out, HV3.out] at hk2 ⊢
        have hKw : Keeps (fun b => B ≤ b) wr w2 := keeps_row (by repeat' (first | (with_reducible assumption) | (with_reducible exact Keeps.refl _ _) | (with_reducible refine keeps_drew ?_) | (with_reducible refine keeps_set ?_ (by dsimp only; omega) _) | (with_reducible refine keeps_alloc ?_ _))) hb2 (by show ¬ B ≤ g; omega)
        obtain ⟨c2_0, f2_0⟩ := cfG hb2 w.heap.size 0 (.int .i64 0)
        obtain ⟨c2_1, f2_1⟩ := cfG hb2 w.heap.size 1 (.int .i64 0)
        obtain ⟨c2_2, f2_2⟩ := cfG hb2 w.heap.size 2 (.slice none 0 0)
        obtain ⟨c2_3, f2_3⟩ := cfG hb2 w1.heap.size 0 (.int .i64 kd2)
        obtain ⟨c2_4, f2_4⟩ := cfG hb2 w1.heap.size 1 (.int .i64 q2)
        obtain ⟨c2_5, f2_5⟩ := cfG hb2 w1.heap.size 2 (.int .i64 q3)
        obtain ⟨c2_6, f2_6⟩ := cfG hb2 w1.heap.size 3 (.string V2)
        obtain ⟨c2_7, f2_7⟩ := cfG hb2 (w1.heap.size + 1) 0 (.int .i64 0)
        obtain ⟨c2_8, f2_8⟩ := cfG hb2 (w1.heap.size + 1) 1 (.int .i64 0)
        obtain ⟨c2_9, f2_9⟩ := cfG hb2 (w1.heap.size + 1) 2 (.slice none 0 0)
        obtain ⟨c2_10, f2_10⟩ := cfG hb2 wr.heap.size 0 (.string nm)
        obtain ⟨c2_11, f2_11⟩ := cfG hb2 wr.heap.size 1 (.int .i64 0)
        obtain ⟨c2_12, f2_12⟩ := cfG hb2 wr.heap.size 2 (.string { data := #[] })
        obtain ⟨c2_13, f2_13⟩ := cfG hb2 wr.heap.size 3 (.slice none 0 0)
        have hs2 := hb2.size
        (try simp at hs2)
        have hl2_0 : w.heap.size < w2.heap.size := by first | omega | (simp at hs2; omega)
        have hl2_1 : w1.heap.size < w2.heap.size := by first | omega | (simp at hs2; omega)
        have hl2_2 : w1.heap.size + 1 < w2.heap.size := by first | omega | (simp at hs2; omega)
        have hl2_3 : wr.heap.size < w2.heap.size := by first | omega | (simp at hs2; omega)
        have hw2 : w.grownBy w2 (some g) := grown_trans (by repeat' (first | (with_reducible assumption) | (with_reducible exact grown_refl _ _) | (with_reducible refine grown_drew ?_) | (with_reducible refine grown_set ?_ (by dsimp only; omega) _) | (with_reducible refine grown_alloc ?_ _))) hb2
        have hz2 := hw2.size
        clear hb2 hs2
        go_wp2_with fail
        go_meet
        refine ⟨jad, jc, ⟨?_, ?_, ?_, ?_, ?_, ?_, ?_, ?_, ?_, ?_, ?_, ?_, ?_, ?_, ?_, ?_, ?_, ?_, ?_, ?_⟩, ⟨?_, ?_, ?_, ?_⟩, ?_, ?_, ?_, Lib.hid (hk2.keeps ?_), ?_⟩
        all_goals first | (simp [go_sem, *]; done) | skip
        · repeat' (first | (with_reducible assumption) | (with_reducible refine Prs.drew ?_) | (with_reducible refine Prs.other ?_ (by dsimp only; omega) _) | (with_reducible refine Prs.alloc ?_ _))
        · repeat' (first | (with_reducible assumption) | (with_reducible exact grown_refl _ _) | (with_reducible refine grown_drew ?_) | (with_reducible refine grown_set ?_ (by dsimp only; omega) _) | (with_reducible refine grown_alloc ?_ _))
        · repeat' (first | (with_reducible assumption) | (with_reducible exact Keeps.refl _ _) | (with_reducible refine keeps_drew ?_) | (with_reducible refine keeps_set ?_ (by dsimp only; omega) _) | (with_reducible refine keeps_alloc ?_ _))
        · repeat' (first | (with_reducible assumption) | (with_reducible exact Keeps.refl _ _) | (with_reducible refine keeps_drew ?_) | (with_reducible refine keeps_set ?_ (by dsimp only; omega) _) | (with_reducible refine keeps_alloc ?_ _))
      case rest =>
        clear c1_0 f1_0 c1_1 f1_1 c1_2 f1_2 c3_0 f3_0 c3_1 f3_1 c3_2 f3_2 c3_3 f3_3 c3_4 f3_4 c3_5 f3_5 c3_6 f3_6 c3_7 f3_7 c3_8 f3_8 c3_9 f3_9 c3_10 f3_10 c3_11 f3_11 c3_12 f3_12 c3_13 f3_13 hP3 hK3 hw3 hP1 k0 kf0 k1 kf1 k2 kf2 k3 kf3 k4 kf4 k5 kf5 k6 kf6 k7 kf7 k8 kf8 k9 kf9
        obtain ⟨jad, jc, ⟨c0, f0, c1, f1, c2, f2, c3, f3, c4, f4, c5, f5, c6, f6, c7, f7, c8, f8, c9, f9⟩, ⟨m0, m1, m2, m3⟩, hPC, hGC, hKC, HKc, hzc⟩ := hcut
        have hc0 := own_len HLn.out (ownsRow_keeps hs2 (fun b hb => hKC.2 b (hVg b hb).1 (hVg b hb).2))
        go_upto_region 15 with (at_builtin; go_loud (refine wpList_append_lies _ rfl _ _ 75 rfl B 166 i0 _ 4 64 Tryz.underlying75 hi iz0 iz1 iz2 rfl (by decide) V K (flat .J (l.take K) ss) rfl (World.ownsRow.alloc hc0 _) ⟨wc.heap.size, 0, none⟩ 1 1 [.string nm, .int .i64 V1, .string V2, .slice jad V3 jc] rfl rfl (World.news_of_block (cs := #[.string nm, .int .i64 V1, .string V2, .slice jad V3 jc]) (heap_alloc_last wc _)) mem4_one (by decide) (by unfold maxLen; omega) (by omega) (by simp; omega) _ rfl ?_; intro g7 cap7 w7 hown7 hgrow7 hat7 hlt7))
        have hC0 : w.heap.size < wc.heap.size := by omega
        have hD0 : w.heap.size ≠ wc.heap.size := by omega
        have hC1 : w1.heap.size < wc.heap.size := by omega
        have hD1 : w1.heap.size ≠ wc.heap.size := by omega
        have hC2 : w1.heap.size + 1 < wc.heap.size := by omega
        have hD2 : w1.heap.size + 1 ≠ wc.heap.size := by omega
        have hb7 := below_row (B := B) hgrow7 (by simp; omega) (fun b hb => (hVg b hb).1)
        obtain ⟨d0, e0⟩ := cf hb7 w.heap.size 0 (.int .i64 0) (by omega)
        obtain ⟨d1, e1⟩ := cf hb7 w.heap.size 1 (.int .i64 0) (by omega)
        obtain ⟨d2, e2⟩ := cf hb7 w.heap.size 2 (.slice none 0 0) (by omega)
        obtain ⟨d3, e3⟩ := cf hb7 w1.heap.size 0 (.int .i64 kd2) (by omega)
        obtain ⟨d4, e4⟩ := cf hb7 w1.heap.size 1 (.int .i64 q2) (by omega)
        obtain ⟨d5, e5⟩ := cf hb7 w1.heap.size 2 (.int .i64 q3) (by omega)
        obtain ⟨d6, e6⟩ := cf hb7 w1.heap.size 3 (.string V2) (by omega)
        obtain ⟨d7, e7⟩ := cf hb7 (w1.heap.size + 1) 0 (.int .i64 0) (by omega)
        obtain ⟨d8, e8⟩ := cf hb7 (w1.heap.size + 1) 1 (.int .i64 0) (by omega)
        obtain ⟨d9, e9⟩ := cf hb7 (w1.heap.size + 1) 2 (.slice none 0 0) (by omega)
        have hP7 := (hPC.alloc _).below hb7 (by omega)
        have hw7 := grown_row (grown_alloc hGC _) hgrow7 (fun b hb => by have := (hVg b hb).1; omega)
        have hz7 := hb7.size
        simp at hz7
        have HD7 : Hid (Bd .J 166 w7 B k (l.take (K + 1)) (.slice (some ⟨g7, 0, none⟩) (K + 1) cap7)) := Lib.hid (by
          rw [HTK.out]
          refine bd_put (s := (.slice none 0 0, .slice jad V3 jc)) hs1 hs3 (keeps_alloc hKC _) True.intro ((HKc.out.mono (fun b hb _ => ⟨by omega, fun e => by have := (hVg _ e).2; omega⟩)).beyond ((Below.refl _ _).alloc (Nat.le_refl _) _)) ?_ hgrow7 (fun b hb => by have e : g7 = b := (by simpa [Value.ownBlock] using hb); subst e; exact hat7)
          rw [HLn.out]
          show World.ownsRow w7 B _ 4 _ (K + 1) (_ ++ [.string (bs kn), .int .i64 kx.o.kind, .string (bs kx.o.text), .slice jad V3 jc])
          rw [HV0.out, HV1.out, HV2.out]
          exact hown7)
        clear hgrow7 hown7 hat7 hb7
        clear c0 f0 c1 f1 c2 f2 c3 f3 c4 f4 c5 f5 c6 f6 c7 f7 c8 f8 c9 f9 m0 m1 m2 m3 hPC hGC hC0 hC1 hC2 hD0 hD1 hD2 hc0 hs1 hs2 hs3
        have hNX : ∃ (kc : Int) (q6 : Nat), Nx T q5 kc q6 { data := #[] } ∧ ((K + 1 = m ∧ kc = 3 ∧ F = q6) ∨ (K + 1 < m ∧ kc = 7 ∧ ∃ x9, l[K + 1]? = some x9 ∧ At T q6 ((itO k) x9 ++ tl (itO k) (l.drop (K + 1 + 1)) 125 Z))) := by
          by_cases hlast : K + 1 = m
          · have hRe : R = 125 :: Z := by rw [← hR, List.drop_eq_nil_of_le (by have := HLm.out; omega), tl_nil]
            rw [hRe] at hAR
            exact ⟨3, q5 + 1, next_125 T hT q5 Z hAR, .inl ⟨hlast, rfl, by have := HF.out; have := hAR.len; simp only [List.length_cons] at this; omega⟩⟩
          · obtain ⟨x9, hx9⟩ : ∃ x, l[K + 1]? = some x := ⟨_, List.getElem?_eq_getElem (by have := HLm.out; omega)⟩
            have hRe : R = 44 :: ((itO k) x9 ++ tl (itO k) (l.drop (K + 1 + 1)) 125 Z) := by rw [← hR, drop_at' hx9, tl_cons]
            rw [hRe] at hAR
            exact ⟨7, q5 + 1, next_44 T hT q5 _ hAR, .inr ⟨by omega, rfl, x9, hx9, hAR.next⟩⟩
        obtain ⟨kc, q6, hN, hNC⟩ := hNX
        have HNC := Lib.hid hNC
        have H4 := Lib.hid (fun (w : World) hP => pnext_any hN g D w hP)
        clear hN hNC hAR hR
        go_cut [] from 30 to 85 (fun W => (W.cell? ⟨w.heap.size, 0, none⟩ = some (.int .i64 0) ∧ W.frozen? ⟨w.heap.size, 0, none⟩ = false ∧ W.cell? ⟨w.heap.size, 1, none⟩ = some (.int .i64 0) ∧ W.frozen? ⟨w.heap.size, 1, none⟩ = false ∧ W.cell? ⟨w.heap.size, 2, none⟩ = some (.slice none 0 0) ∧ W.frozen? ⟨w.heap.size, 2, none⟩ = false ∧ W.cell? ⟨w1.heap.size, 0, none⟩ = some (.int .i64 kc) ∧ W.frozen? ⟨w1.heap.size, 0, none⟩ = false ∧ W.cell? ⟨w1.heap.size, 1, none⟩ = some (.int .i64 q5) ∧ W.frozen? ⟨w1.heap.size, 1, none⟩ = false ∧ W.cell? ⟨w1.heap.size, 2, none⟩ = some (.int .i64 q6) ∧ W.frozen? ⟨w1.heap.size, 2, none⟩ = false ∧ W.cell? ⟨w1.heap.size, 3, none⟩ = some (.string { data := #[] }) ∧ W.frozen? ⟨w1.heap.size, 3, none⟩ = false ∧ W.cell? ⟨w1.heap.size + 1, 0, none⟩ = some (.int .i64 0) ∧ W.frozen? ⟨w1.heap.size + 1, 0, none⟩ = false ∧ W.cell? ⟨w1.heap.size + 1, 1, none⟩ = some (.int .i64 0) ∧ W.frozen? ⟨w1.heap.size + 1, 1, none⟩ = false ∧ W.cell? ⟨w1.heap.size + 1, 2, none⟩ = some (.slice none 0 0) ∧ W.frozen? ⟨w1.heap.size + 1, 2, none⟩ = false) ∧ Prs W g T q6 D ∧ w.grownBy W (some g) ∧ Keeps (fun b => B ≤ b) w7 W ∧ wr.heap.size < W.heap.size)
        case first =>
          go_wp2_with fail
          with_reducible refine (H4.out _ ?hp4).mono ?_
          case hp4 => repeat' (first | (with_reducible assumption) | (with_reducible refine Prs.drew ?_) | (with_reducible refine Prs.other ?_ (by dsimp only; omega) _) | (with_reducible refine Prs.alloc ?_ _))
          rintro e w4 ⟨rfl, hP4, hb4⟩
          have hK4 : Keeps (fun b => B ≤ b) w7 w4 := keeps_row (Keeps.refl _ _) hb4 (by show ¬ B ≤ g; omega)
          obtain ⟨c4_0, f4_0⟩ := cfG hb4 w.heap.size 0 (.int .i64 0)
          obtain ⟨c4_1, f4_1⟩ := cfG hb4 w.heap.size 1 (.int .i64 0)
          obtain ⟨c4_2, f4_2⟩ := cfG hb4 w.heap.size 2 (.slice none 0 0)
          obtain ⟨c4_3, f4_3⟩ := cfG hb4 w1.heap.size 0 (.int .i64 kd2)
          obtain ⟨c4_4, f4_4⟩ := cfG hb4 w1.heap.size 1 (.int .i64 q2)
          obtain ⟨c4_5, f4_5⟩ := cfG hb4 w1.heap.size 2 (.int .i64 q3)
          obtain ⟨c4_6, f4_6⟩ := cfG hb4 w1.heap.size 3 (.string V2)
          obtain ⟨c4_7, f4_7⟩ := cfG hb4 (w1.heap.size + 1) 0 (.int .i64 0)
          obtain ⟨c4_8, f4_8⟩ := cfG hb4 (w1.heap.size + 1) 1 (.int .i64 0)
          obtain ⟨c4_9, f4_9⟩ := cfG hb4 (w1.heap.size + 1) 2 (.slice none 0 0)
          have hs4 := hb4.size
          (try simp at hs4)
          have hl4_0 : w.heap.size < w4.heap.size := by first | omega | (simp at hs4; omega)
          have hl4_1 : w1.heap.size < w4.heap.size := by first | omega | (simp at hs4; omega)
          have hl4_2 : w1.heap.size + 1 < w4.heap.size := by first | omega | (simp at hs4; omega)
          have hw4 : w.grownBy w4 (some g) := grown_trans (by repeat' (first | (with_reducible assumption) | (with_reducible exact grown_refl _ _) | (with_reducible refine grown_drew ?_) | (with_reducible refine grown_set ?_ (by dsimp only; omega) _) | (with_reducible refine grown_alloc ?_ _))) hb4
          have hz4 := hw4.size
          clear hb4 hs4
          go_wp2_with fail
          go_meet
          refine ⟨⟨?_, ?_, ?_, ?_, ?_, ?_, ?_, ?_, ?_, ?_, ?_, ?_, ?_, ?_, ?_, ?_, ?_, ?_, ?_, ?_⟩, ?_, ?_, ?_, ?_⟩
          all_goals first | (simp [go_sem, *]; done) | skip
          · repeat' (first | (with_reducible assumption) | (with_reducible refine Prs.drew ?_) | (with_reducible refine Prs.other ?_ (by dsimp only; omega) _) | (with_reducible refine Prs.alloc ?_ _))
          · repeat' (first | (with_reducible assumption) | (with_reducible exact grown_refl _ _) | (with_reducible refine grown_drew ?_) | (with_reducible refine grown_set ?_ (by dsimp only; omega) _) | (with_reducible refine grown_alloc ?_ _))
          · repeat' (first | (with_reducible assumption) | (with_reducible exact Keeps.refl _ _) | (with_reducible refine keeps_drew ?_) | (with_reducible refine keeps_set ?_ (by dsimp only; omega) _) | (with_reducible refine keeps_alloc ?_ _))
          · (have := hK4.1; simp; omega)
        case rest =>
          clear d0 e0 d1 e1 d2 e2 d3 e3 d4 e4 d5 e5 d6 e6 d7 e7 d8 e8 d9 e9
          obtain ⟨⟨c4_0, f4_0, c4_1, f4_1, c4_2, f4_2, c4_3, f4_3, c4_4, f4_4, c4_5, f4_5, c4_6, f4_6, c4_7, f4_7, c4_8, f4_8, c4_9, f4_9⟩, hP4, hw4, hK4, hz4⟩ := hcut
          rcases HNC.out with ⟨hlast, hkc, hFe⟩ | ⟨hlast, hkc, x9, hx9, hA6⟩
          · subst hkc hFe
            have HD8 : Hid (Bd .J 166 w7 B k l (.slice (some ⟨g7, 0, none⟩) (K + 1) cap7)) := Lib.hid (by
              have h1 := HD7.out
              rw [List.take_of_length_le (by have := HLm.out; omega)] at h1
              exact h1)
            have hl40 : w.heap.size < wc.heap.size := by omega
            clear HNC HD7 H4 hlast
            go_wp2_with fail
            refine bodyPost_ret (v := .tuple #[.slice (some ⟨g7, 0, none⟩) (K + 1) cap7, .agg #[.int .i64 0, .int .i64 0, .slice none 0 0]]) (by simp (maxDischargeDepth := 4) [results, Tryz.results115, go_sem, c4_0, f4_0, c4_1, f4_1, c4_2, f4_2, c4_3, f4_3, c4_4, f4_4, c4_5, f4_5, c4_6, f4_6, c4_7, f4_7, c4_8, f4_8, c4_9, f4_9, hl40]) rfl ?_
            refine ⟨⟨_, rfl, (Bd.keeps HD8.out ?_).done.mono (fun b hb _ => by omega)⟩, ?_, ?_⟩
            · repeat' (first | (with_reducible assumption) | (with_reducible exact Keeps.refl _ _) | (with_reducible refine keeps_drew ?_) | (with_reducible refine keeps_set ?_ (by dsimp only; omega) _) | (with_reducible refine keeps_alloc ?_ _))
            · repeat' (first | (with_reducible assumption) | (with_reducible refine Prs.drew ?_) | (with_reducible refine Prs.other ?_ (by dsimp only; omega) _) | (with_reducible refine Prs.alloc ?_ _))
            · repeat' (first | (with_reducible assumption) | (with_reducible exact grown_refl _ _) | (with_reducible refine grown_drew ?_) | (with_reducible refine grown_set ?_ (by dsimp only; omega) _) | (with_reducible refine grown_alloc ?_ _))
          · subst hkc
            have hqx9 : x9.1.length ≤ 200 ∧ Wh x9.1 ∧ Jq k x9.2 := HQ.out _ (List.mem_of_getElem? hx9)
            have hN9 : Nx T q6 8 (q6 + (quote x9.1).length) (bs x9.1) := fun w => next_str T hT q6 x9.1 (58 :: prJ k x9.2 ++ tl (itO k) (l.drop (K + 1 + 1)) 125 Z) hqx9.1 hqx9.2.1 (by simpa [itO] using hA6) w
            obtain ⟨q9, hq9⟩ : ∃ x, q6 + (quote x9.1).length = x := ⟨_, rfl⟩
            obtain ⟨nm9, hnm9⟩ : ∃ x, bs x9.1 = x := ⟨_, rfl⟩
            rw [hq9, hnm9] at hN9
            have HS9 := Lib.hid (And.intro hq9.symm hnm9)
            clear hq9 hnm9
            have H5 := Lib.hid (fun (w : World) hP => pnext_any hN9 g D w hP)
            have HX9 := Lib.hid (And.intro hx9 hA6)
            have hl41 : w.heap.size < wc.heap.size := by omega
            have hl42 : w1.heap.size < wc.heap.size := by omega
            have hl43 : w1.heap.size + 1 < wc.heap.size := by omega
            have hbase := w7.heap.size
            clear hN9 hx9 hA6 hqx9 HNC H4
            go_wp2_with fail
            with_reducible refine (H5.out _ ?hp5).mono ?_
            case hp5 => repeat' (first | (with_reducible assumption) | (with_reducible refine Prs.drew ?_) | (with_reducible refine Prs.other ?_ (by dsimp only; omega) _) | (with_reducible refine Prs.alloc ?_ _))
            rintro e w5 ⟨rfl, hP5, hb5⟩
            have hK5 : Keeps (fun b => B ≤ b) w7 w5 := keeps_row (by repeat' (first | (with_reducible assumption) | (with_reducible exact Keeps.refl _ _) | (with_reducible refine keeps_drew ?_) | (with_reducible refine keeps_set ?_ (by dsimp only; omega) _) | (with_reducible refine keeps_alloc ?_ _))) hb5 (by show ¬ B ≤ g; omega)
            obtain ⟨c5_0, f5_0⟩ := cfG hb5 w.heap.size 0 (.int .i64 0)
            obtain ⟨c5_1, f5_1⟩ := cfG hb5 w.heap.size 1 (.int .i64 0)
            obtain ⟨c5_2, f5_2⟩ := cfG hb5 w.heap.size 2 (.slice none 0 0)
            obtain ⟨c5_3, f5_3⟩ := cfG hb5 w1.heap.size 0 (.int .i64 7)
            obtain ⟨c5_4, f5_4⟩ := cfG hb5 w1.heap.size 1 (.int .i64 q5)
            obtain ⟨c5_5, f5_5⟩ := cfG hb5 w1.heap.size 2 (.int .i64 q6)
            obtain ⟨c5_6, f5_6⟩ := cfG hb5 w1.heap.size 3 (.string { data := #[] })
            obtain ⟨c5_7, f5_7⟩ := cfG hb5 (w1.heap.size + 1) 0 (.int .i64 0)
            obtain ⟨c5_8, f5_8⟩ := cfG hb5 (w1.heap.size + 1) 1 (.int .i64 0)
            obtain ⟨c5_9, f5_9⟩ := cfG hb5 (w1.heap.size + 1) 2 (.slice none 0 0)
            have hs5 := hb5.size
            (try simp at hs5)
            have hl5_0 : w.heap.size < w5.heap.size := by first | omega | (simp at hs5; omega)
            have hl5_1 : w1.heap.size < w5.heap.size := by first | omega | (simp at hs5; omega)
            have hl5_2 : w1.heap.size + 1 < w5.heap.size := by first | omega | (simp at hs5; omega)
            have hw5 : w.grownBy w5 (some g) := grown_trans (by repeat' (first | (with_reducible assumption) | (with_reducible exact grown_refl _ _) | (with_reducible refine grown_drew ?_) | (with_reducible refine grown_set ?_ (by dsimp only; omega) _) | (with_reducible refine grown_alloc ?_ _))) hb5
            have hz5 := hw5.size
            clear hb5 hs5
            go_wp2_with fail
            clear c4_0 f4_0 c4_1 f4_1 c4_2 f4_2 c4_3 f4_3 c4_4 f4_4 c4_5 f4_5 c4_6 f4_6 c4_7 f4_7 c4_8 f4_8 c4_9 f4_9 hP4 hw4 hK4
            go_roundw
            case rel =>
              refine ⟨K + 1, q6, q9, nm9, _, hlast, rfl, rfl, ⟨?_, ?_, ?_, ?_, ?_, ?_, ?_, ?_, ?_, ?_, ?_, ?_, ?_, ?_, ?_, ?_, ?_, ?_, ?_, ?_⟩, Lib.hid ⟨x9, HX9.out.1, HX9.out.2, HS9.out.1, HS9.out.2, ?_, Bd.keeps HD7.out ?_, ?_, ?_⟩⟩
              all_goals first | (simp [go_sem, *]; done) | skip
              · repeat' (first | (with_reducible assumption) | (with_reducible refine Prs.drew ?_) | (with_reducible refine Prs.other ?_ (by dsimp only; omega) _) | (with_reducible refine Prs.alloc ?_ _))
              · repeat' (first | (with_reducible assumption) | (with_reducible exact Keeps.refl _ _) | (with_reducible refine keeps_drew ?_) | (with_reducible refine keeps_set ?_ (by dsimp only; omega) _) | (with_reducible refine keeps_alloc ?_ _))
              · repeat' (first | (with_reducible assumption) | (with_reducible exact grown_refl _ _) | (with_reducible refine grown_drew ?_) | (with_reducible refine grown_set ?_ (by dsimp only; omega) _) | (with_reducible refine grown_alloc ?_ _))
              · (have := hK5.1; simp; omega)
            case measure => (show m - (K + 1) < m - lenOf V); omega
end
end Go.Proofs.YtihnfhhopldllaaGreatDoor
