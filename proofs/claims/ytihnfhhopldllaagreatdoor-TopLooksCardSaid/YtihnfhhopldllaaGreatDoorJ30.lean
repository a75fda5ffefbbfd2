/- Parts of the proof of TopLooks: U54, U55, U78, U56. No condition. -/
import Derived.Test.YtihnfhhopldllaaGreatDoorJ1
import Derived.Test.YtihnfhhopldllaaGreatDoorJ28
import Derived.Test.YtihnfhhopldllaaGreatDoorJ29
import Derived.Test.YtihnfhhopldllaaGreatDoorJ9
namespace Go.Proofs.YtihnfhhopldllaaGreatDoor
set_option linter.unusedSimpArgs false
set_option linter.unusedVariables false
set_option maxHeartbeats 6400000
set_option maxRecDepth 100000
section
open Go.RowKit
def RV (l : KL) (K : Nat) : KL := l.take K ++ (l.drop K).map (fun x => (([] : List UInt8), x.2))
theorem rv_at {l : KL} {K : Nat} {nm : List UInt8} {x : Ro} (h : l[K]? = some (nm, x)) : (RV l K)[K]? = some ([], x) := by
  have hl := (List.getElem?_eq_some_iff.1 h).1
  unfold RV
  rw [List.getElem?_append_right (by rw [List.length_take]; omega), List.length_take, Nat.min_eq_left (by omega), Nat.sub_self, List.getElem?_map, List.getElem?_drop, Nat.add_zero, h]
  rfl
theorem rv_set {l : KL} {K : Nat} {nm : List UInt8} {x : Ro} (h : l[K]? = some (nm, x)) : (RV l K).set K (nm, x) = RV l (K + 1) := by
  have hl := (List.getElem?_eq_some_iff.1 h).1
  unfold RV
  rw [List.set_append_right _ _ (by rw [List.length_take]; omega), List.length_take, Nat.min_eq_left (by omega), Nat.sub_self, drop_at' h, List.take_add_one, h]
  simp
theorem rv_all {l : KL} {K : Nat} (h : l.length ≤ K) : RV l K = l := by
  unfold RV
  rw [List.take_of_length_le h, List.drop_eq_nil_of_le h]
  simp
theorem bd_headV {T : TypeId} {w : World} {base d m c : Nat} {l : KL} {vd : Option Addr} (h : Bd .V T w base d l (.slice vd m c)) (hm : 0 < m) : ∃ g, vd = some ⟨g, 0, none⟩ ∧ base ≤ g := by
  obtain ⟨ss, h1, h2, h3⟩ := h
  rcases h2.2 with ⟨h, _⟩ | ⟨g, cap, cur, hv, hb, _⟩
  · injection h with _ e _; omega
  · injection hv with e1 e2 e3
    exact ⟨g, e1, hb⟩
theorem evalue_6 (d k : Nat) (lj l : KL) (hE : EPl d k lj (l.map fun x => ([], x.2))) (hnm : ∀ (i : Nat) (x : List UInt8 × Ro), l[i]? = some x → x.1 = dgs i) (hl20 : l.length ≤ 20) (tx : ByteArray) (Q : Nat → Prop) (ad : Option Addr) (m c : Nat) (hm : lj.length = m) (hv : l.length = m) (p : Value) (n B : Nat) (hn : n + (k + 1) ≤ 900) (w : World) (hk : Kd .J Q w (d + 1) lj (.slice ad m c)) (hp : Pa w B 3 p n) (hB : B ≤ w.heap.size) (hQ : ∀ b, Q b → b < w.heap.size → p.ownBlock ≠ some b) :
    Calls Tryz.prog 119 #[.agg #[.int .i64 6, .string tx, .slice ad m c], p] w fun e w' => (∃ s, e = .returned (.tuple #[.agg #[.int .i64 4, .int .u64 0, .int .u64 0, .int .u64 0, .string { data := #[] }, .string { data := #[] }, .int .i64 0, .slice none 0 0, s], .agg #[.int .i64 0, .int .i64 0, .slice none 0 0]]) ∧ Kd .V (fun b => w.heap.size ≤ b) w' (k + 1) l s) ∧ w.grownBy w' p.ownBlock ∧ Pa w' B 3 p n := by
  have hpl := hp.lt
  have HPL : Hid (∀ w1, Kd .J (fun b => Q b ∧ b < w.heap.size) w1 (d + 1) lj (.slice ad m c) → Pa w1 B 3 p n → B ≤ w1.heap.size → Calls Tryz.prog 70 #[.slice ad m c, p] w1 fun e w' => (∃ V, e = .returned (.tuple #[V, .agg #[.int .i64 0, .int .i64 0, .slice none 0 0]]) ∧ Bd .V 51 w' w1.heap.size k (l.map fun x => ([], x.2)) V) ∧ w1.grownBy w' p.ownBlock ∧ Pa w' B 3 p n) := Lib.hid (fun w1 h1 h2 h3 => hE (fun b => Q b ∧ b < w.heap.size) ad m c p n B w1 hm hn h1 h2 h3 (fun b hb _ => hQ b hb.1 hb.2))
  have HK := Lib.hid (hk.mono (Q' := fun b => Q b ∧ b < w.heap.size) (fun b hb hl => ⟨hb, hl⟩))
  have HP := Lib.hid hp
  have HLV := Lib.hid hv
  have HNM := Lib.hid hnm
  have hm20 : m ≤ 20 := by omega
  have HW := Lib.hid (fun ad n c w => with_any 4 ad n c w)
  clear hE hv hm hk hp hQ hnm hl20
  go_enter Tryz.func119, Tryz.ntmps119
  go_wp2_with fail
  with_reducible refine (HPL.out _ ?hk ?hp ?hB2).mono ?_
  case hk => exact HK.out.beyond bel
  case hp => exact HP.out.beyond bel
  case hB2 => (simp; omega)
  rintro e w1 ⟨⟨V, rfl, hV⟩, hb1, hP1⟩
  replace hV := Lib.hid (hV.low (base' := w.heap.size + 1 + 1 + 1) (by simp))
  obtain ⟨vd, vc, hVe⟩ : ∃ vd vc, V = .slice vd m vc := by
    obtain ⟨ad', c', hv⟩ := hV.out.done.slice
    exact ⟨ad', c', by rw [hv, List.length_map, HLV.out]⟩
  subst hVe
  obtain ⟨c1_0, f1_0⟩ := cfR hb1 w.heap.size 0 (.int .i64 6) (fun e => by have := hpl _ e; omega)
  obtain ⟨c1_1, f1_1⟩ := cfR hb1 w.heap.size 1 (.string tx) (fun e => by have := hpl _ e; omega)
  obtain ⟨c1_2, f1_2⟩ := cfR hb1 w.heap.size 2 (.slice ad m c) (fun e => by have := hpl _ e; omega)
  obtain ⟨c1_3, f1_3⟩ := cfR hb1 (w.heap.size + 1) 0 (.int .i64 0) (fun e => by have := hpl _ e; omega)
  obtain ⟨c1_4, f1_4⟩ := cfR hb1 (w.heap.size + 1) 1 (.int .u64 0) (fun e => by have := hpl _ e; omega)
  obtain ⟨c1_5, f1_5⟩ := cfR hb1 (w.heap.size + 1) 2 (.int .u64 0) (fun e => by have := hpl _ e; omega)
  obtain ⟨c1_6, f1_6⟩ := cfR hb1 (w.heap.size + 1) 3 (.int .u64 0) (fun e => by have := hpl _ e; omega)
  obtain ⟨c1_7, f1_7⟩ := cfR hb1 (w.heap.size + 1) 4 (.string { data := #[] }) (fun e => by have := hpl _ e; omega)
  obtain ⟨c1_8, f1_8⟩ := cfR hb1 (w.heap.size + 1) 5 (.string { data := #[] }) (fun e => by have := hpl _ e; omega)
  obtain ⟨c1_9, f1_9⟩ := cfR hb1 (w.heap.size + 1) 6 (.int .i64 0) (fun e => by have := hpl _ e; omega)
  obtain ⟨c1_10, f1_10⟩ := cfR hb1 (w.heap.size + 1) 7 (.slice none 0 0) (fun e => by have := hpl _ e; omega)
  obtain ⟨c1_11, f1_11⟩ := cfR hb1 (w.heap.size + 1) 8 (.slice none 0 0) (fun e => by have := hpl _ e; omega)
  obtain ⟨c1_12, f1_12⟩ := cfR hb1 (w.heap.size + 1 + 1) 0 (.int .i64 0) (fun e => by have := hpl _ e; omega)
  obtain ⟨c1_13, f1_13⟩ := cfR hb1 (w.heap.size + 1 + 1) 1 (.int .i64 0) (fun e => by have := hpl _ e; omega)
  obtain ⟨c1_14, f1_14⟩ := cfR hb1 (w.heap.size + 1 + 1) 2 (.slice none 0 0) (fun e => by have := hpl _ e; omega)
  have hs1 := hb1.size
  (try simp at hs1)
  have hl1_0 : w.heap.size < w1.heap.size := by first | omega | (simp at hs1; omega)
  have hl1_1 : w.heap.size + 1 < w1.heap.size := by first | omega | (simp at hs1; omega)
  have hl1_2 : w.heap.size + 1 + 1 < w1.heap.size := by first | omega | (simp at hs1; omega)
  have hw1 : w.grownBy w1 p.ownBlock := grown_trans (by repeat' (first | (with_reducible assumption) | (with_reducible exact grown_refl _ _) | (with_reducible refine grown_drew ?_) | (with_reducible refine grown_set_none ?_ (by dsimp only; omega) _) | (with_reducible refine grown_alloc ?_ _))) hb1
  have hz1 := hw1.size
  clear hb1 hs1
  have HVl := Lib.hid hV.out.lt
  clear c1_0 f1_0 c1_1 f1_1 c1_2 f1_2
  go_wp2_with fail
  go_loopw [69] (fun x wr => ∃ K : Nat, K ≤ m ∧ x = .int .i64 K ∧ (wr.cell? ⟨w.heap.size + 1, 0, none⟩ = some (.int .i64 0) ∧ wr.frozen? ⟨w.heap.size + 1, 0, none⟩ = false ∧ wr.cell? ⟨w.heap.size + 1, 1, none⟩ = some (.int .u64 0) ∧ wr.frozen? ⟨w.heap.size + 1, 1, none⟩ = false ∧ wr.cell? ⟨w.heap.size + 1, 2, none⟩ = some (.int .u64 0) ∧ wr.frozen? ⟨w.heap.size + 1, 2, none⟩ = false ∧ wr.cell? ⟨w.heap.size + 1, 3, none⟩ = some (.int .u64 0) ∧ wr.frozen? ⟨w.heap.size + 1, 3, none⟩ = false ∧ wr.cell? ⟨w.heap.size + 1, 4, none⟩ = some (.string { data := #[] }) ∧ wr.frozen? ⟨w.heap.size + 1, 4, none⟩ = false ∧ wr.cell? ⟨w.heap.size + 1, 5, none⟩ = some (.string { data := #[] }) ∧ wr.frozen? ⟨w.heap.size + 1, 5, none⟩ = false ∧ wr.cell? ⟨w.heap.size + 1, 6, none⟩ = some (.int .i64 0) ∧ wr.frozen? ⟨w.heap.size + 1, 6, none⟩ = false ∧ wr.cell? ⟨w.heap.size + 1, 7, none⟩ = some (.slice none 0 0) ∧ wr.frozen? ⟨w.heap.size + 1, 7, none⟩ = false ∧ wr.cell? ⟨w.heap.size + 1, 8, none⟩ = some (.slice none 0 0) ∧ wr.frozen? ⟨w.heap.size + 1, 8, none⟩ = false ∧ wr.cell? ⟨w.heap.size + 1 + 1, 0, none⟩ = some (.int .i64 0) ∧ wr.frozen? ⟨w.heap.size + 1 + 1, 0, none⟩ = false ∧ wr.cell? ⟨w.heap.size + 1 + 1, 1, none⟩ = some (.int .i64 0) ∧ wr.frozen? ⟨w.heap.size + 1 + 1, 1, none⟩ = false ∧ wr.cell? ⟨w.heap.size + 1 + 1, 2, none⟩ = some (.slice none 0 0) ∧ wr.frozen? ⟨w.heap.size + 1 + 1, 2, none⟩ = false ∧ wr.cell? ⟨w1.heap.size, 0, none⟩ = some (.int .i64 0) ∧ wr.frozen? ⟨w1.heap.size, 0, none⟩ = false ∧ wr.cell? ⟨w1.heap.size, 1, none⟩ = some (.int .i64 0) ∧ wr.frozen? ⟨w1.heap.size, 1, none⟩ = false ∧ wr.cell? ⟨w1.heap.size, 2, none⟩ = some (.slice none 0 0) ∧ wr.frozen? ⟨w1.heap.size, 2, none⟩ = false) ∧ Hid (w.grownBy wr p.ownBlock) ∧ Hid (Pa wr B 3 p n) ∧ Hid (Bd .V 51 wr (w.heap.size + 1 + 1 + 1) k (RV l K) (.slice vd m vc)) ∧ w1.heap.size < wr.heap.size) (fun x _ => m - (intOf x).toNat)
  case atStart =>
    refine ⟨0, Nat.zero_le _, rfl, ⟨?_, ?_, ?_, ?_, ?_, ?_, ?_, ?_, ?_, ?_, ?_, ?_, ?_, ?_, ?_, ?_, ?_, ?_, ?_, ?_, ?_, ?_, ?_, ?_, ?_, ?_, ?_, ?_, ?_, ?_⟩, Lib.hid ?_, Lib.hid ?_, Lib.hid ?_, ?_⟩
    all_goals first | (simp [go_sem, *]; done) | skip
    · repeat' (first | (with_reducible assumption) | (with_reducible exact grown_refl _ _) | (with_reducible refine grown_drew ?_) | (with_reducible refine grown_set_none ?_ (by dsimp only; omega) _) | (with_reducible refine grown_alloc ?_ _))
    · exact hP1.beyond bel
    · have e : RV l 0 = l.map fun x => ([], x.2) := by simp [RV]
      rw [e]
      exact hV.out.beyond bel
  case round =>
    obtain ⟨K, hK, rfl, ⟨k0, kf0, k1, kf1, k2, kf2, k3, kf3, k4, kf4, k5, kf5, k6, kf6, k7, kf7, k8, kf8, k9, kf9, k10, kf10, k11, kf11, k12, kf12, k13, kf13, k14, kf14⟩, HG, HPr, HD, hlw⟩ := hrel
    have hz0 := HG.out.size
    have hl2 : w.heap.size + 1 < wr.heap.size := by omega
    have hl3 : w.heap.size + 1 + 1 < wr.heap.size := by omega
    by_cases hKm : K < m
    · obtain ⟨⟨kn, kx⟩, hkx⟩ : ∃ x, l[K]? = some x := ⟨_, List.getElem?_eq_getElem (by have := HLV.out; omega)⟩
      have hat := rv_at hkx
      have hset := rv_set hkx
      have hnm := HNM.out K _ hkx
      obtain ⟨g, hg, hgb⟩ := bd_headV HD.out (by omega)
      subst hg
      obtain ⟨hg1, hg2⟩ := HVl.out g rfl
      obtain ⟨n1, n2⟩ := bd_freeV HD.out hat
      have e4 : 10 * K = K * 10 := Nat.mul_comm _ _
      rw [e4] at n1 n2
      have IT := Lib.hid (fun w => Tryz.strconv_Itoa_small K (by omega) w)
      obtain ⟨D0, hD0⟩ : ∃ x : ByteArray, ⟨(Lib.decDigits K).toArray⟩ = x := ⟨_, rfl⟩
      rw [hD0] at IT
      have HD2 : Hid (Bd .V 51 (wr.setCell ⟨g, K * 10, none⟩ (.string D0)) (w.heap.size + 1 + 1 + 1) k (RV l (K + 1)) (.slice (some ⟨g, 0, none⟩) m vc)) := Lib.hid (by
        have h := bd_renameV HD.out hat kn
        have e : bs kn = D0 := by
          have hnm' : kn = dgs K := hnm
          rw [hnm', dgs_dec (by omega), ← hD0]
          rfl
        rw [hset, e4, e] at h
        exact h)
      have d1 : g ≠ w1.heap.size := by omega
      have d2 : g ≠ w.heap.size + 1 := by omega
      have d3 : g ≠ w.heap.size + 1 + 1 := by omega
      have d4 : w1.heap.size ≠ g := fun e => d1 e.symm
      have d5 : w.heap.size + 1 ≠ g := fun e => d2 e.symm
      have d6 : w.heap.size + 1 + 1 ≠ g := fun e => d3 e.symm
      clear hat hset hkx e4 hnm hD0
      go_wp2_with fail
      with_reducible refine (IT.out _).mono ?_
      rintro e w' ⟨rfl, rfl⟩
      go_wp2_with fail
      go_roundw
      case rel =>
        refine ⟨K + 1, by omega, by go_num, ⟨?_, ?_, ?_, ?_, ?_, ?_, ?_, ?_, ?_, ?_, ?_, ?_, ?_, ?_, ?_, ?_, ?_, ?_, ?_, ?_, ?_, ?_, ?_, ?_, ?_, ?_, ?_, ?_, ?_, ?_⟩, Lib.hid (grown_set_none HG.out (by dsimp only; omega) _), Lib.hid (pa_set HPr.out (fun b hb => by have := hpl _ hb; dsimp only; omega) _), HD2, by simp; omega⟩
        all_goals first | (simp [go_sem, *]; done) | skip
      case measure => simp [intOf]; omega
    · have hKe : K = m := by omega
      subst hKe
      have HDk : Hid (Kd .V (fun b => w.heap.size + 1 + 1 + 1 ≤ b) wr (k + 1) l (.slice vd K vc)) := Lib.hid (by
        have h := HD.out
        rw [rv_all (by have := HLV.out; omega)] at h
        exact h.done)
      have hg0 := hpl
      go_wp2_with fail
      with_reducible refine (HW.out _ _ _ _).mono ?_
      rintro e w3 ⟨rfl, hb3⟩
      obtain ⟨c3_0, f3_0⟩ := cf hb3 (w.heap.size + 1) 0 (.int .i64 0)
      obtain ⟨c3_1, f3_1⟩ := cf hb3 (w.heap.size + 1) 1 (.int .u64 0)
      obtain ⟨c3_2, f3_2⟩ := cf hb3 (w.heap.size + 1) 2 (.int .u64 0)
      obtain ⟨c3_3, f3_3⟩ := cf hb3 (w.heap.size + 1) 3 (.int .u64 0)
      obtain ⟨c3_4, f3_4⟩ := cf hb3 (w.heap.size + 1) 4 (.string { data := #[] })
      obtain ⟨c3_5, f3_5⟩ := cf hb3 (w.heap.size + 1) 5 (.string { data := #[] })
      obtain ⟨c3_6, f3_6⟩ := cf hb3 (w.heap.size + 1) 6 (.int .i64 0)
      obtain ⟨c3_7, f3_7⟩ := cf hb3 (w.heap.size + 1) 7 (.slice none 0 0)
      obtain ⟨c3_8, f3_8⟩ := cf hb3 (w.heap.size + 1) 8 (.slice none 0 0)
      obtain ⟨c3_9, f3_9⟩ := cf hb3 (w.heap.size + 1 + 1) 0 (.int .i64 0)
      obtain ⟨c3_10, f3_10⟩ := cf hb3 (w.heap.size + 1 + 1) 1 (.int .i64 0)
      obtain ⟨c3_11, f3_11⟩ := cf hb3 (w.heap.size + 1 + 1) 2 (.slice none 0 0)
      have hl3_0 := ltB hb3 (w.heap.size + 1)
      have hl3_1 := ltB hb3 (w.heap.size + 1 + 1)
      have hw3 := bwB hb3 wr.heap.size wr
      have hz3 := hw3.size
      clear hb3
      go_wp2_with fail
      refine bodyPost_ret (v := .tuple #[.agg #[.int .i64 4, .int .u64 0, .int .u64 0, .int .u64 0, .string { data := #[] }, .string { data := #[] }, .int .i64 0, .slice none 0 0, .slice vd K vc], .agg #[.int .i64 0, .int .i64 0, .slice none 0 0]]) (by simp (maxDischargeDepth := 4) [results, Tryz.results119, go_sem, c3_0, f3_0, c3_1, f3_1, c3_2, f3_2, c3_3, f3_3, c3_4, f3_4, c3_5, f3_5, c3_6, f3_6, c3_7, f3_7, c3_8, f3_8, c3_9, f3_9, c3_10, f3_10, c3_11, f3_11]) rfl ?_
      have hk9 := HDk.out.keeps (Keeps.beyond hw3)
      have hg9 := grown_trans HG.out (grown_below hw3 p.ownBlock)
      have hp9 := HPr.out.beyond hw3
      refine ⟨⟨_, rfl, (hk9.keeps ?_).mono (fun b hb _ => by omega)⟩, ?_, ?_⟩
      · repeat' (first | (with_reducible exact Keeps.refl _ _) | (with_reducible refine keeps_set ?_ (by dsimp only; omega) _))
      · repeat' (first | (with_reducible assumption) | (with_reducible exact grown_refl _ _) | (with_reducible refine grown_drew ?_) | (with_reducible refine grown_set_none ?_ (by dsimp only; omega) _) | (with_reducible refine grown_alloc ?_ _))
      · repeat' (first | (with_reducible assumption) | (with_reducible refine pa_set ?_ (fun g hg => by have := hpl _ hg; dsimp only; omega) _))
end
section
open Go.RowKit
theorem epl_of {d k : Nat} {lj lv : KL} (hE : EKids d k lj lv) (hl : lv.length ≤ 20) : EPl d k lj lv := fun Q ad m c p n B w hm hn hk hp hB hQ => eplain_any d k lj lv hE hl Q ad m c hm p n B hn w hk hp hB hQ
theorem eval_obj {d k : Nat} {lj lv : KL} (hE : EKids d k lj lv) (hl : lv.length ≤ 20) (hdol : dol lj = false) : EVal (d + 1) (k + 1) (jO lj) (vD lv) := fun Q w v p n B h hp hn hB hQ => by
  obtain ⟨ad, c, rfl⟩ := isJ_form h
  have hk := isJ_kids h
  refine (evalue_7 d k lj lv (epl_of hE hl) hdol (bs []) Q ad lj.length c rfl hE.1.symm p n B hn w hk hp hB hQ).mono ?_
  rintro e w' ⟨⟨s, rfl, hs⟩, hg, hpa⟩
  exact ⟨⟨_, rfl, ⟨.slice none 0 0, s, rfl, By.nil _ _, hs⟩⟩, hg, hpa⟩
theorem eval_arr {d k : Nat} {lj l : KL} (hE : EKids d k lj (l.map fun x => ([], x.2))) (hl : l.length ≤ 20) (hnm : ∀ (i : Nat) (x : List UInt8 × Ro), l[i]? = some x → x.1 = dgs i) : EVal (d + 1) (k + 1) (jA lj) (vA l) := fun Q w v p n B h hp hn hB hQ => by
  obtain ⟨ad, c, rfl⟩ := isJ_form h
  have hk := isJ_kids h
  refine (evalue_6 d k lj l (epl_of hE (by simpa using hl)) hnm hl (bs []) Q ad lj.length c rfl (by have := hE.1; simpa using this.symm) p n B hn w hk hp hB hQ).mono ?_
  rintro e w' ⟨⟨s, rfl, hs⟩, hg, hpa⟩
  exact ⟨⟨_, rfl, ⟨.slice none 0 0, s, rfl, By.nil _ _, hs⟩⟩, hg, hpa⟩
theorem eval_wdoc {d k : Nat} {lj lv : KL} (hE : EKids d k lj lv) (hl : lv.length ≤ 20) : EVal (d + 2) (k + 1) (jO [(nDoc, jO lj)]) (vD lv) := fun Q w v p n B h hp hn hB hQ => by
  obtain ⟨ad0, c0, rfl⟩ := isJ_form h
  have hk := isJ_kids h
  obtain ⟨b, o, bv, s, rfl, hqb, hbl, hra, hby, hkd⟩ := hk.at (i := 0) (nm := nDoc) (x := jO lj) rfl
  obtain ⟨ad, mc, rfl⟩ := hkd.slice
  obtain ⟨r0, r1, r2, r3⟩ := rowJ hra
  simp only [Nat.zero_mul, Nat.add_zero] at r0 r1 r2 r3
  refine (evalue_w3 d k lj lv (epl_of hE hl) (bs []) (bs []) Q b o c0 ad lj.length mc rfl hE.1.symm p n B hn w hbl r0 r1 r2 r3 hkd hp hB hQ).mono ?_
  rintro e w' ⟨⟨s, rfl, hs⟩, hg, hpa⟩
  exact ⟨⟨_, rfl, ⟨.slice none 0 0, s, rfl, By.nil _ _, hs⟩⟩, hg, hpa⟩
theorem eval_warr {d k : Nat} {lj lv : KL} (hE : EKids d k lj lv) (hl : lv.length ≤ 20) : EVal (d + 2) (k + 1) (jO [(nArr, jO lj)]) (vA lv) := fun Q w v p n B h hp hn hB hQ => by
  obtain ⟨ad0, c0, rfl⟩ := isJ_form h
  have hk := isJ_kids h
  obtain ⟨b, o, bv, s, rfl, hqb, hbl, hra, hby, hkd⟩ := hk.at (i := 0) (nm := nArr) (x := jO lj) rfl
  obtain ⟨ad, mc, rfl⟩ := hkd.slice
  obtain ⟨r0, r1, r2, r3⟩ := rowJ hra
  simp only [Nat.zero_mul, Nat.add_zero] at r0 r1 r2 r3
  refine (evalue_w4 d k lj lv (epl_of hE hl) (bs []) (bs []) Q b o c0 ad lj.length mc rfl hE.1.symm p n B hn w hbl r0 r1 r2 r3 hkd hp hB hQ).mono ?_
  rintro e w' ⟨⟨s, rfl, hs⟩, hg, hpa⟩
  exact ⟨⟨_, rfl, ⟨.slice none 0 0, s, rfl, By.nil _ _, hs⟩⟩, hg, hpa⟩
theorem ekids_of {d k : Nat} {l : KL} {f : Ro → Ro} (ho : ∀ x ∈ l, (0 : UInt8) ∉ x.1) (hv : ∀ x ∈ l, EVal d k (f x.2) x.2) : EKids d k (l.map fun x => (x.1, f x.2)) l := by
  refine ⟨by simp, fun i nm y h => ?_⟩
  rw [List.getElem?_map] at h
  obtain ⟨x, hx, e⟩ := Option.map_eq_some_iff.1 h
  have hm := List.mem_of_getElem? hx
  injection e with e1 e2
  subst e1 e2
  exact ⟨ho x hm, x.2, hx, hv x hm⟩
theorem ekids_nil {d k : Nat} {l : KL} {f : Ro → Ro} (hv : ∀ x ∈ l, EVal d k (f x.2) x.2) : EKids d k (l.map fun x => (([] : List UInt8), f x.2)) (l.map fun x => ([], x.2)) := by
  refine ⟨by simp, fun i nm y h => ?_⟩
  rw [List.getElem?_map] at h
  obtain ⟨x, hx, e⟩ := Option.map_eq_some_iff.1 h
  have hm := List.mem_of_getElem? hx
  injection e with e1 e2
  subst e1 e2
  exact ⟨by simp, x.2, by rw [List.getElem?_map, hx]; rfl, hv x hm⟩
theorem dol_map {l : KL} {f : Ro → Ro} : dol (l.map fun x => (x.1, f x.2)) = dol l := by
  cases l with
  | nil => rfl
  | cons x l =>
    obtain ⟨nm, t⟩ := x
    rw [dol_pre (l := (nm, t) :: l) (kn := nm) (kx := t) rfl]
    exact dol_pre (kn := nm) (kx := f t) rfl
theorem eval_any (i : Ro) : ∀ (k : Nat) (nm : List UInt8) (t : Ro) (d : Nat), Dk k t → Sk k t → okT k nm t = true → 2 * k + 1 ≤ d → EVal d k (docJ i k t) t
  | 0, nm, t, d, _, ⟨x, hx⟩, _, _ => by
    subst hx
    rw [docJ_vS]
    exact eval_S d 0 x
  | k + 1, nm, t, d, hd, hs, ho, hkd => by
    rcases hs with ⟨x, rfl⟩ | ⟨l, ht, hs⟩
    · rw [docJ_vS]
      exact eval_S d (k + 1) x
    · have hl : l.length ≤ 20 ∧ ∀ x ∈ l, x.1.length ≤ 200 ∧ Dk k x.2 := by
        rcases hd with (⟨x, _, e⟩ | e) | ⟨l', ht', h1, h2⟩
        · rcases ht with rfl | rfl <;> injection e with e _ <;> injection e with e <;> exact absurd e (by decide)
        · rcases ht with rfl | rfl <;> injection e with e _ <;> injection e with e <;> exact absurd e (by decide)
        · have e : l' = l := by
            rcases ht with rfl | rfl <;> rcases ht' with e | e <;> injection e with _ e <;> exact e.symm
          subst e
          exact ⟨h1, h2⟩
      have hkids : t.kids = l := by rcases ht with rfl | rfl <;> rfl
      have hok : ∀ x ∈ l, okT k x.1 x.2 = true := fun x hx => okT_at ho (by rw [hkids]; exact hx)
      have hno : ∀ x ∈ l, (0 : UInt8) ∉ x.1 := fun x hx => (okT_nm (hok x hx)).2
      have ih : ∀ e, 2 * k + 1 ≤ e → ∀ x ∈ l, EVal e k (docJ i k x.2) x.2 := fun e he x hx => eval_any i k x.1 x.2 e (hl.2 x hx).2 (hs x hx) (hok x hx) he
      obtain ⟨d', rfl⟩ : ∃ d', d = d' + 2 := ⟨d - 2, by omega⟩
      rcases ht with rfl | rfl
      · rw [docJ_vD]
        unfold wrapD
        cases hb : dol l with
        | true => exact eval_wdoc (ekids_of hno (ih d' (by omega))) hl.1
        | false => exact eval_obj (ekids_of hno (ih (d' + 1) (by omega))) hl.1 (by rw [dol_map]; exact hb)
      · rw [docJ_vA]
        split
        · rename_i hr
          exact eval_arr (ekids_nil (ih (d' + 1) (by omega))) hl.1 (fun i x hx => by have := (reg_at l 0).1 hr i x hx; simpa using this)
        · exact eval_warr (ekids_of hno (ih d' (by omega))) hl.1
end
section
open Go.RowKit
theorem wparse_1 (w : World) : Calls Tryz.prog 32 #[.string { data := #[49] }] w fun e w' => e = .returned (.tuple #[.int .i64 1, .bool true]) ∧ Below w.heap.size w w' := by
  have HP : Hid (∀ w, Calls Tryz.prog 57 #[.string { data := #[49] }, .int .i64 10, .int .i64 64] w fun e w' => e = .returned (.tuple #[.int .i64 1, .nilIface]) ∧ Below w.heap.size w w') := Lib.hid (fun w => (Tryz.strconv_ParseInt_10_at64_ok { data := #[49] } (by decide) 1 (by decide) w).mono (fun e w' h => ⟨h.1, by
    rcases h.2 with rfl | ⟨t, rfl⟩
    · exact Below.refl _ _
    · exact ⟨rfl, rfl, rfl, by rw [Lib.bytesWorld_size]; omega, fun k hk => Lib.bytesWorld_at_old w _ t k hk⟩⟩))
  have HT := Lib.hid wtext_1
  go_enter Tryz.func32, Tryz.ntmps32
  go_wp2_with fail
  with_reducible refine (HP.out _).mono ?_
  rintro e w1 ⟨rfl, hb1⟩
  go_wp2_with fail
  with_reducible refine (HT.out _).mono ?_
  rintro e w' ⟨rfl, rfl⟩
  go_wp2_with fail
  go_ret2
  exact ⟨rfl, hb1⟩
theorem str_1 (b o c : Nat) (tx : ByteArray) (sd : Option Addr) (V3 sc : Nat) (w : World) (hb : b < w.heap.size) (r0 : w.cell? ⟨b, o, none⟩ = some (.string { data := #[36, 110, 117, 109, 98, 101, 114, 73, 110, 116] })) (r1 : w.cell? ⟨b, o + 1, none⟩ = some (.int .i64 5)) (r2 : w.cell? ⟨b, o + 2, none⟩ = some (.string { data := #[49] })) (r3 : w.cell? ⟨b, o + 3, none⟩ = some (.slice sd V3 sc)) :
    Calls Tryz.prog 263 #[.agg #[.int .i64 7, .string tx, .slice (some ⟨b, o, none⟩) 1 c], .string { data := #[36, 110, 117, 109, 98, 101, 114, 73, 110, 116] }] w fun e w' => e = .returned (.tuple #[.string { data := #[49] }, .bool true]) ∧ Below w.heap.size w w' := by
  have HS : Hid (∀ u : World, u.cell? ⟨b, o, none⟩ = some (.string { data := #[36, 110, 117, 109, 98, 101, 114, 73, 110, 116] }) → u.cell? ⟨b, o + 1, none⟩ = some (.int .i64 5) → u.cell? ⟨b, o + 2, none⟩ = some (.string { data := #[49] }) → u.cell? ⟨b, o + 3, none⟩ = some (.slice sd V3 sc) → b < u.heap.size → u.cell? ⟨w.heap.size + 1, 0, none⟩ = some (.string { data := #[36, 110, 117, 109, 98, 101, 114, 73, 110, 116] }) → Calls Tryz.prog 262 #[.agg #[.int .i64 7, .string tx, .slice (some ⟨b, o, none⟩) 1 c], .slice (some ⟨w.heap.size + 1, 0, none⟩) 1 1] u fun e w' => e = .returned (.bool true) ∧ Below u.heap.size u w') := Lib.hid (fun u r0 r1 r2 r3 hb r5 => shape_yes tx { data := #[36, 110, 117, 109, 98, 101, 114, 73, 110, 116] } { data := #[36, 110, 117, 109, 98, 101, 114, 73, 110, 116] } b o (w.heap.size + 1) c 1 5 { data := #[49] } sd V3 sc u hb (World.block_lt_of_cell? _ _ r5) r0 r1 r2 r3 r5 (by simp))
  have n0 : b ≠ w.heap.size := by omega
  have m0 : b < w.heap.size + 1 := by omega
  have n1 : b ≠ w.heap.size + 1 := by omega
  have m1 : b < w.heap.size + 1 + 1 := by omega
  have n2 : b ≠ w.heap.size + 1 + 1 := by omega
  have m2 : b < w.heap.size + 1 + 1 + 1 := by omega
  have n3 : b ≠ w.heap.size + 1 + 1 + 1 := by omega
  have m3 : b < w.heap.size + 1 + 1 + 1 + 1 := by omega
  go_enter Tryz.func263, Tryz.ntmps263
  go_wp2_with fail
  with_reducible refine (HS.out _ ?r0 ?r1 ?r2 ?r3 ?r4 ?r5).mono ?_
  case r0 => first | with_reducible assumption | (simp [go_sem]; done) | (simp [go_sem, *]; done)
  case r1 => first | with_reducible assumption | (simp [go_sem]; done) | (simp [go_sem, *]; done)
  case r2 => first | with_reducible assumption | (simp [go_sem]; done) | (simp [go_sem, *]; done)
  case r3 => first | with_reducible assumption | (simp [go_sem]; done) | (simp [go_sem, *]; done)
  case r4 => first | assumption | (simp; omega)
  case r5 => (simp [go_sem]; done)
  rintro e w1 ⟨rfl, hb1⟩
  have c1_0 := cB hb1 w.heap.size 0 (.int .i64 7)
  have c1_1 := cB hb1 w.heap.size 1 (.string tx)
  have c1_2 := cB hb1 w.heap.size 2 (.slice (some ⟨b, o, none⟩) 1 c)
  have c1_3 := cB hb1 b o (.string { data := #[36, 110, 117, 109, 98, 101, 114, 73, 110, 116] })
  have c1_4 := cB hb1 b (o + 1) (.int .i64 5)
  have c1_5 := cB hb1 b (o + 2) (.string { data := #[49] })
  have c1_6 := cB hb1 b (o + 3) (.slice sd V3 sc)
  have hl1_0 := ltB hb1 w.heap.size
  have hl1_1 := ltB hb1 b
  have hw1 := bwB hb1 w.heap.size w
  have hz1 := hw1.size
  clear hb1
  go_wp2_with fail
  go_ret2
  exact ⟨rfl, bel⟩
theorem digits_1 (b o c : Nat) (tx : ByteArray) (sd : Option Addr) (V3 sc : Nat) (w : World) (hb : b < w.heap.size) (r0 : w.cell? ⟨b, o, none⟩ = some (.string { data := #[36, 110, 117, 109, 98, 101, 114, 73, 110, 116] })) (r1 : w.cell? ⟨b, o + 1, none⟩ = some (.int .i64 5)) (r2 : w.cell? ⟨b, o + 2, none⟩ = some (.string { data := #[49] })) (r3 : w.cell? ⟨b, o + 3, none⟩ = some (.slice sd V3 sc)) :
    Calls Tryz.prog 200 #[.agg #[.int .i64 7, .string tx, .slice (some ⟨b, o, none⟩) 1 c]] w fun e w' => e = .returned (.tuple #[.agg #[.int .i64 16, .int .u64 1, .int .u64 0, .int .u64 0, .string { data := #[] }, .string { data := #[] }, .int .i64 0, .slice none 0 0, .slice none 0 0], .bool true]) ∧ Below w.heap.size w w' := by
  have HS : Hid (∀ u : World, u.cell? ⟨b, o, none⟩ = some (.string { data := #[36, 110, 117, 109, 98, 101, 114, 73, 110, 116] }) → u.cell? ⟨b, o + 1, none⟩ = some (.int .i64 5) → u.cell? ⟨b, o + 2, none⟩ = some (.string { data := #[49] }) → u.cell? ⟨b, o + 3, none⟩ = some (.slice sd V3 sc) → b < u.heap.size → Calls Tryz.prog 263 #[.agg #[.int .i64 7, .string tx, .slice (some ⟨b, o, none⟩) 1 c], .string { data := #[36, 110, 117, 109, 98, 101, 114, 73, 110, 116] }] u fun e w' => e = .returned (.tuple #[.string { data := #[49] }, .bool true]) ∧ Below u.heap.size u w') := Lib.hid (fun u r0 r1 r2 r3 hb => str_1 b o c tx sd V3 sc u hb r0 r1 r2 r3)
  have HP := Lib.hid wparse_1
  have n0 : b ≠ w.heap.size := by omega
  have m0 : b < w.heap.size + 1 := by omega
  have n1 : b ≠ w.heap.size + 1 := by omega
  have m1 : b < w.heap.size + 1 + 1 := by omega
  have n2 : b ≠ w.heap.size + 1 + 1 := by omega
  have m2 : b < w.heap.size + 1 + 1 + 1 := by omega
  have n3 : b ≠ w.heap.size + 1 + 1 + 1 := by omega
  have m3 : b < w.heap.size + 1 + 1 + 1 + 1 := by omega
  go_enter Tryz.func200, Tryz.ntmps200
  go_wp2_with fail
  with_reducible refine (HS.out _ ?r0 ?r1 ?r2 ?r3 ?r4).mono ?_
  case r0 => first | with_reducible assumption | (simp [go_sem]; done) | (simp [go_sem, *]; done)
  case r1 => first | with_reducible assumption | (simp [go_sem]; done) | (simp [go_sem, *]; done)
  case r2 => first | with_reducible assumption | (simp [go_sem]; done) | (simp [go_sem, *]; done)
  case r3 => first | with_reducible assumption | (simp [go_sem]; done) | (simp [go_sem, *]; done)
  case r4 => first | assumption | (simp; omega)
  rintro e w1 ⟨rfl, hb1⟩
  obtain ⟨c1_0, f1_0⟩ := cf hb1 w.heap.size 0 (.int .i64 7)
  obtain ⟨c1_1, f1_1⟩ := cf hb1 w.heap.size 1 (.string tx)
  obtain ⟨c1_2, f1_2⟩ := cf hb1 w.heap.size 2 (.slice (some ⟨b, o, none⟩) 1 c)
  obtain ⟨c1_3, f1_3⟩ := cf hb1 (w.heap.size + 1) 0 (.int .i64 0)
  obtain ⟨c1_4, f1_4⟩ := cf hb1 (w.heap.size + 1) 1 (.int .u64 0)
  obtain ⟨c1_5, f1_5⟩ := cf hb1 (w.heap.size + 1) 2 (.int .u64 0)
  obtain ⟨c1_6, f1_6⟩ := cf hb1 (w.heap.size + 1) 3 (.int .u64 0)
  obtain ⟨c1_7, f1_7⟩ := cf hb1 (w.heap.size + 1) 4 (.string { data := #[] })
  obtain ⟨c1_8, f1_8⟩ := cf hb1 (w.heap.size + 1) 5 (.string { data := #[] })
  obtain ⟨c1_9, f1_9⟩ := cf hb1 (w.heap.size + 1) 6 (.int .i64 0)
  obtain ⟨c1_10, f1_10⟩ := cf hb1 (w.heap.size + 1) 7 (.slice none 0 0)
  obtain ⟨c1_11, f1_11⟩ := cf hb1 (w.heap.size + 1) 8 (.slice none 0 0)
  have hl1_0 := ltB hb1 w.heap.size
  have hl1_1 := ltB hb1 (w.heap.size + 1)
  have hw1 := bwB hb1 w.heap.size w
  have hz1 := hw1.size
  clear hb1
  go_wp2_with fail
  with_reducible refine (HP.out _).mono ?_
  rintro e w2 ⟨rfl, hb2⟩
  obtain ⟨c2_0, f2_0⟩ := cf hb2 w.heap.size 0 (.int .i64 7)
  obtain ⟨c2_1, f2_1⟩ := cf hb2 w.heap.size 1 (.string tx)
  obtain ⟨c2_2, f2_2⟩ := cf hb2 w.heap.size 2 (.slice (some ⟨b, o, none⟩) 1 c)
  obtain ⟨c2_3, f2_3⟩ := cf hb2 (w.heap.size + 1) 0 (.int .i64 0)
  obtain ⟨c2_4, f2_4⟩ := cf hb2 (w.heap.size + 1) 1 (.int .u64 0)
  obtain ⟨c2_5, f2_5⟩ := cf hb2 (w.heap.size + 1) 2 (.int .u64 0)
  obtain ⟨c2_6, f2_6⟩ := cf hb2 (w.heap.size + 1) 3 (.int .u64 0)
  obtain ⟨c2_7, f2_7⟩ := cf hb2 (w.heap.size + 1) 4 (.string { data := #[] })
  obtain ⟨c2_8, f2_8⟩ := cf hb2 (w.heap.size + 1) 5 (.string { data := #[] })
  obtain ⟨c2_9, f2_9⟩ := cf hb2 (w.heap.size + 1) 6 (.int .i64 0)
  obtain ⟨c2_10, f2_10⟩ := cf hb2 (w.heap.size + 1) 7 (.slice none 0 0)
  obtain ⟨c2_11, f2_11⟩ := cf hb2 (w.heap.size + 1) 8 (.slice none 0 0)
  have hl2_0 := ltB hb2 w.heap.size
  have hl2_1 := ltB hb2 (w.heap.size + 1)
  have hw2 := bwB hb2 w.heap.size w
  have hz2 := hw2.size
  clear hb2
  go_wp2_with fail
  refine bodyPost_ret (v := .tuple #[.agg #[.int .i64 16, .int .u64 1, .int .u64 0, .int .u64 0, .string { data := #[] }, .string { data := #[] }, .int .i64 0, .slice none 0 0, .slice none 0 0], .bool true]) (by simp (maxDischargeDepth := 4) [results, Tryz.results200, go_sem, c2_3, f2_3, c2_4, f2_4, c2_5, f2_5, c2_6, f2_6, c2_7, f2_7, c2_8, f2_8, c2_9, f2_9, c2_10, f2_10, c2_11, f2_11]) rfl ?_
  exact ⟨rfl, bel⟩
end
section
open Go.RowKit
theorem eread_any (d k : Nat) (lj lv : KL) (hE : EPl d k lj lv) (hC : JChk (d + 1) (jO lj)) (Q : Nat → Prop) (ad : Option Addr) (m c : Nat) (hm : lj.length = m) (hv : lv.length = m) (hn : k + 1 ≤ 900) (w : World) (hk : Kd .J Q w (d + 1) lj (.slice ad m c)) :
    Calls Tryz.prog 40 #[.agg #[.int .i64 7, .string { data := #[] }, .slice ad m c]] w fun e w' => (∃ s, e = .returned (.tuple #[.agg #[.int .i64 3, .int .u64 0, .int .u64 0, .int .u64 0, .string { data := #[] }, .string { data := #[] }, .int .i64 0, .slice none 0 0, s], .agg #[.int .i64 0, .int .i64 0, .slice none 0 0]]) ∧ Kd .V (fun b => w.heap.size ≤ b) w' (k + 1) lv s) ∧ Below w.heap.size w w' := by
  have CK : Hid (∀ w1, Kd .J Q w1 (d + 1) lj (.slice ad m c) → Calls Tryz.prog 62 #[.agg #[.int .i64 7, .string { data := #[] }, .slice ad m c]] w1 fun e w' => e = .returned (.int .i64 0) ∧ Below w1.heap.size w1 w') := Lib.hid (fun w1 h1 => hC Q w1 _ ⟨.slice none 0 0, _, rfl, True.intro, h1⟩)
  have HPL : Hid (∀ w1, Kd .J Q w1 (d + 1) lj (.slice ad m c) → 0 ≤ w1.heap.size → Calls Tryz.prog 70 #[.slice ad m c, .slice none 0 0] w1 fun e w' => (∃ V, e = .returned (.tuple #[V, .agg #[.int .i64 0, .int .i64 0, .slice none 0 0]]) ∧ Bd .V 51 w' w1.heap.size k lv V) ∧ Below w1.heap.size w1 w') := Lib.hid (fun w1 h1 h2 => (hE Q ad m c (.slice none 0 0) 0 0 w1 hm (by omega) h1 (Pa.nil _ _ _) (Nat.zero_le _) (fun b _ _ e => by cases e)).mono (fun e w' h => ⟨h.1, below_grown h.2.1⟩))
  have HK := Lib.hid hk
  have HLV := Lib.hid hv
  clear hE hC hm hv hk
  go_enter Tryz.func40, Tryz.ntmps40
  go_wp2_with fail
  with_reducible refine (CK.out _ ?hj).mono ?_
  case hj => exact HK.out.beyond bel
  rintro e w1 ⟨rfl, hb1⟩
  obtain ⟨c1_0, f1_0⟩ := cf hb1 w.heap.size 0 (.int .i64 7)
  obtain ⟨c1_1, f1_1⟩ := cf hb1 w.heap.size 1 (.string { data := #[] })
  obtain ⟨c1_2, f1_2⟩ := cf hb1 w.heap.size 2 (.slice ad m c)
  obtain ⟨c1_3, f1_3⟩ := cf hb1 (w.heap.size + 1) 0 (.int .i64 0)
  obtain ⟨c1_4, f1_4⟩ := cf hb1 (w.heap.size + 1) 1 (.int .u64 0)
  obtain ⟨c1_5, f1_5⟩ := cf hb1 (w.heap.size + 1) 2 (.int .u64 0)
  obtain ⟨c1_6, f1_6⟩ := cf hb1 (w.heap.size + 1) 3 (.int .u64 0)
  obtain ⟨c1_7, f1_7⟩ := cf hb1 (w.heap.size + 1) 4 (.string { data := #[] })
  obtain ⟨c1_8, f1_8⟩ := cf hb1 (w.heap.size + 1) 5 (.string { data := #[] })
  obtain ⟨c1_9, f1_9⟩ := cf hb1 (w.heap.size + 1) 6 (.int .i64 0)
  obtain ⟨c1_10, f1_10⟩ := cf hb1 (w.heap.size + 1) 7 (.slice none 0 0)
  obtain ⟨c1_11, f1_11⟩ := cf hb1 (w.heap.size + 1) 8 (.slice none 0 0)
  obtain ⟨c1_12, f1_12⟩ := cf hb1 (w.heap.size + 1 + 1) 0 (.int .i64 0)
  obtain ⟨c1_13, f1_13⟩ := cf hb1 (w.heap.size + 1 + 1) 1 (.int .i64 0)
  obtain ⟨c1_14, f1_14⟩ := cf hb1 (w.heap.size + 1 + 1) 2 (.slice none 0 0)
  have hl1_0 := ltB hb1 w.heap.size
  have hl1_1 := ltB hb1 (w.heap.size + 1)
  have hl1_2 := ltB hb1 (w.heap.size + 1 + 1)
  have hw1 := bwB hb1 w.heap.size w
  have hz1 := hw1.size
  clear hb1
  go_wp2_with fail
  with_reducible refine (HPL.out _ ?hk ?hB2).mono ?_
  case hk => exact HK.out.beyond hw1
  case hB2 => omega
  rintro e w2 ⟨⟨V, rfl, hV⟩, hb2⟩
  have hk2 := Lib.hid (hV.low (base' := w.heap.size + 1 + 1 + 1) (by omega)).done
  clear hV
  obtain ⟨vd, vc, rfl⟩ := hk2.out.slice
  simp only [HLV.out] at hk2 ⊢
  obtain ⟨c2_0, f2_0⟩ := cf hb2 w.heap.size 0 (.int .i64 7)
  obtain ⟨c2_1, f2_1⟩ := cf hb2 w.heap.size 1 (.string { data := #[] })
  obtain ⟨c2_2, f2_2⟩ := cf hb2 w.heap.size 2 (.slice ad m c)
  obtain ⟨c2_3, f2_3⟩ := cf hb2 (w.heap.size + 1) 0 (.int .i64 0)
  obtain ⟨c2_4, f2_4⟩ := cf hb2 (w.heap.size + 1) 1 (.int .u64 0)
  obtain ⟨c2_5, f2_5⟩ := cf hb2 (w.heap.size + 1) 2 (.int .u64 0)
  obtain ⟨c2_6, f2_6⟩ := cf hb2 (w.heap.size + 1) 3 (.int .u64 0)
  obtain ⟨c2_7, f2_7⟩ := cf hb2 (w.heap.size + 1) 4 (.string { data := #[] })
  obtain ⟨c2_8, f2_8⟩ := cf hb2 (w.heap.size + 1) 5 (.string { data := #[] })
  obtain ⟨c2_9, f2_9⟩ := cf hb2 (w.heap.size + 1) 6 (.int .i64 0)
  obtain ⟨c2_10, f2_10⟩ := cf hb2 (w.heap.size + 1) 7 (.slice none 0 0)
  obtain ⟨c2_11, f2_11⟩ := cf hb2 (w.heap.size + 1) 8 (.slice none 0 0)
  obtain ⟨c2_12, f2_12⟩ := cf hb2 (w.heap.size + 1 + 1) 0 (.int .i64 0)
  obtain ⟨c2_13, f2_13⟩ := cf hb2 (w.heap.size + 1 + 1) 1 (.int .i64 0)
  obtain ⟨c2_14, f2_14⟩ := cf hb2 (w.heap.size + 1 + 1) 2 (.slice none 0 0)
  have hl2_0 := ltB hb2 w.heap.size
  have hl2_1 := ltB hb2 (w.heap.size + 1)
  have hl2_2 := ltB hb2 (w.heap.size + 1 + 1)
  have hw2 := bwB hb2 w1.heap.size w1
  have hz2 := hw2.size
  clear hb2
  have hw12 : Below w.heap.size w w2 := hw1.trans (hw2.mono hz1)
  clear hw2 CK HPL HK
  go_upto_region 8 with fail
  obtain ⟨w3, hw3⟩ : ∃ W, W = w2.alloc (Obj.cells #[.int .i64 0, .int .i64 0, .slice none 0 0] 33) := ⟨_, rfl⟩
  have hb3 : Below w2.heap.size w2 w3 := by rw [hw3]; exact bel
  rw [← hw3]
  have g3 := (hb3.cell (p := ⟨w.heap.size + 1, 0, none⟩) (by omega)).trans c2_3
  have q3 := (hb3.frozen (p := ⟨w.heap.size + 1, 0, none⟩) (by omega)).trans f2_3
  have g4 := (hb3.cell (p := ⟨w.heap.size + 1, 1, none⟩) (by omega)).trans c2_4
  have q4 := (hb3.frozen (p := ⟨w.heap.size + 1, 1, none⟩) (by omega)).trans f2_4
  have g5 := (hb3.cell (p := ⟨w.heap.size + 1, 2, none⟩) (by omega)).trans c2_5
  have q5 := (hb3.frozen (p := ⟨w.heap.size + 1, 2, none⟩) (by omega)).trans f2_5
  have g6 := (hb3.cell (p := ⟨w.heap.size + 1, 3, none⟩) (by omega)).trans c2_6
  have q6 := (hb3.frozen (p := ⟨w.heap.size + 1, 3, none⟩) (by omega)).trans f2_6
  have g7 := (hb3.cell (p := ⟨w.heap.size + 1, 4, none⟩) (by omega)).trans c2_7
  have q7 := (hb3.frozen (p := ⟨w.heap.size + 1, 4, none⟩) (by omega)).trans f2_7
  have g8 := (hb3.cell (p := ⟨w.heap.size + 1, 5, none⟩) (by omega)).trans c2_8
  have q8 := (hb3.frozen (p := ⟨w.heap.size + 1, 5, none⟩) (by omega)).trans f2_8
  have g9 := (hb3.cell (p := ⟨w.heap.size + 1, 6, none⟩) (by omega)).trans c2_9
  have q9 := (hb3.frozen (p := ⟨w.heap.size + 1, 6, none⟩) (by omega)).trans f2_9
  have g10 := (hb3.cell (p := ⟨w.heap.size + 1, 7, none⟩) (by omega)).trans c2_10
  have q10 := (hb3.frozen (p := ⟨w.heap.size + 1, 7, none⟩) (by omega)).trans f2_10
  have g11 := (hb3.cell (p := ⟨w.heap.size + 1, 8, none⟩) (by omega)).trans c2_11
  have q11 := (hb3.frozen (p := ⟨w.heap.size + 1, 8, none⟩) (by omega)).trans f2_11
  have g12 := (hb3.cell (p := ⟨w.heap.size + 1 + 1, 0, none⟩) (by omega)).trans c2_12
  have q12 := (hb3.frozen (p := ⟨w.heap.size + 1 + 1, 0, none⟩) (by omega)).trans f2_12
  have g13 := (hb3.cell (p := ⟨w.heap.size + 1 + 1, 1, none⟩) (by omega)).trans c2_13
  have q13 := (hb3.frozen (p := ⟨w.heap.size + 1 + 1, 1, none⟩) (by omega)).trans f2_13
  have g14 := (hb3.cell (p := ⟨w.heap.size + 1 + 1, 2, none⟩) (by omega)).trans c2_14
  have q14 := (hb3.frozen (p := ⟨w.heap.size + 1 + 1, 2, none⟩) (by omega)).trans f2_14
  have hw13 := hw12.trans (hb3.mono (by omega))
  have hk3 := Lib.hid (hk2.out.beyond hb3)
  have hz3 := hb3.size
  have hl3_1 : w.heap.size + 1 < w3.heap.size := by omega
  have hl3_2 : w.heap.size + 1 + 1 < w3.heap.size := by omega
  clear hw3 hb3 hk2 c2_0 f2_0 c2_1 f2_1 c2_2 f2_2 c2_3 f2_3 c2_4 f2_4 c2_5 f2_5 c2_6 f2_6 c2_7 f2_7 c2_8 f2_8 c2_9 f2_9 c2_10 f2_10 c2_11 f2_11 c2_12 f2_12 c2_13 f2_13 c2_14 f2_14
  go_wp2_with fail
  refine bodyPost_ret (v := .tuple #[.agg #[.int .i64 3, .int .u64 0, .int .u64 0, .int .u64 0, .string { data := #[] }, .string { data := #[] }, .int .i64 0, .slice none 0 0, .slice vd m vc], .agg #[.int .i64 0, .int .i64 0, .slice none 0 0]]) (by simp (maxDischargeDepth := 4) [results, Tryz.results40, go_sem, g3, q3, g4, q4, g5, q5, g6, q6, g7, q7, g8, q8, g9, q9, g10, q10, g11, q11, g12, q12, g13, q13, g14, q14]) rfl ?_
  refine ⟨⟨_, rfl, (hk3.out.keeps ?_).mono (fun b hb _ => by omega)⟩, bel⟩
  repeat' (first | (with_reducible exact Keeps.refl _ _) | (with_reducible refine keeps_set ?_ (by dsimp only; omega) _) | (with_reducible refine keeps_alloc ?_ _))
end
end Go.Proofs.YtihnfhhopldllaaGreatDoor
