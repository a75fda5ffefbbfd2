/- Knuth's division: what a whole round leaves, both ways. Plain laws. No program. -/
import Derived.Test.YtogmmhacjndebaaDoorKn
namespace Go.Proofs.YtogmmhacjndebaaDoor
set_option linter.unusedSimpArgs false
set_option linter.unusedVariables false
/-- What stands at the outer loop's head, j digits being still to come. -/
structure KE (uL qL : List Nat) (V A j n : Nat) : Prop where
  du : DigL uL
  dq : DigL qL
  sum : valL qL * V + valL uL = A
  zero : ∀ t, t < j → qL.getD t 0 = 0
  small : valL (uL.drop j) < V
  top : valL (uL.drop (j + n)) = 0
theorem kmL_dig {l : List Nat} {j i : Nat} {f : Nat → Nat} (hl : DigL l) (hf : ∀ i, f i < 65536) : DigL (kmL l j f i) := by
  unfold kmL
  exact (hl.take j).app ((DigL.map i f (fun t _ => hf t)).app (hl.drop (j + i)))
theorem kn_W {uL : List Nat} {j n : Nat} (hj : j + n < uL.length) (hz : valL (uL.drop (j + n + 1)) = 0) : valL (uL.drop j) = valL ((uL.drop j).take n) + 65536 ^ n * uL.getD (j + n) 0 := by
  rw [val_split (uL.drop j) n (by rw [List.length_drop]; omega), List.drop_drop, val_drop uL (j + n) hj, hz, Nat.mul_zero, Nat.add_zero]
theorem kn_getx {uL : List Nat} {j t : Nat} : (uL.drop j).getD t 0 = uL.getD (j + t) 0 := by
  rw [List.getD_eq_getElem?_getD, List.getD_eq_getElem?_getD, List.getElem?_drop]
/-- The round's end, from the row that it leaves. -/
theorem KE.next {uL u2 qL : List Nat} {V A j n G : Nat} (H : KE uL qL V A (j + 1) n) (hq : j < qL.length) (hG : G = valL (uL.drop j) / V) (hG2 : G < 65536) (hV : 0 < V) (hl : j ≤ uL.length) (d2 : DigL u2)
    (h1 : valL u2 = valL (uL.take j) + 65536 ^ j * (valL (uL.drop j) % V)) (h2 : valL (u2.drop j) = valL (uL.drop j) % V) (h3 : valL (u2.drop (j + n)) = 0) : KE u2 (qL.set j G) V A j n := by
  subst hG
  refine ⟨d2, H.dq.set j _ hG2, kn_sum H.sum hq (H.zero j (by omega)) hl h1, fun t ht => ?_, ?_, h3⟩
  · rw [getD_set _ _ _ _ hq, if_neg (by omega)]; exact H.zero t (by omega)
  · rw [h2]; exact Nat.mod_lt _ hV
/-- The guess was right: the row's new digits; its top is 0. -/
theorem KE.right {uL qL v : List Nat} {V A j n G : Nat} (H : KE uL qL V A (j + 1) n) (hv : DigL v) (hn : v.length = n) (hV : V = valL v) (hV0 : 0 < V) (hj : j + n < uL.length) (hq : j < qL.length) (hg0 : valL (uL.drop j) / V ≤ G) (hg1 : G ≤ valL (uL.drop j) / V + 1) (hG : G < 65536)
    (h : msB G (uL.drop j) v n + msC G v n ≤ uL.getD (j + n) 0) :
    uL.getD (j + n) 0 = msB G (uL.drop j) v n + msC G v n ∧ KE ((kmL uL j (msD G (uL.drop j) v) n).set (j + n) 0) (qL.set j G) V A j n := by
  have hz : valL (uL.drop (j + n + 1)) = 0 := by have := H.top; rw [show j + n + 1 = j + 1 + n by omega]; exact this
  have hx := H.du.drop j
  obtain ⟨e1, e2, e3⟩ := kn_right hx hv hn (kn_W hj hz) hV hg0 hg1 hV0 h
  obtain ⟨k1, k2, k3⟩ := kn_left (msD G (uL.drop j) v) hj hz e3
  exact ⟨e2, H.next hq e1 hG hV0 (by omega) ((kmL_dig H.du (fun i => (ms_dig hx i).1)).set _ _ (by decide)) k1 k2 k3⟩
theorem kmL_getm {l : List Nat} {j i t : Nat} (f : Nat → Nat) (h : j + i ≤ l.length) (ht : t < i) : (kmL l j f i).getD (j + t) 0 = f t := by
  unfold kmL
  rw [List.getD_eq_getElem?_getD, List.getElem?_append_right (by rw [List.length_take]; omega), List.getElem?_append_left (by simp only [List.length_take, List.length_map, List.length_range]; omega), List.length_take, Nat.min_eq_left (by omega), Nat.add_sub_cancel_left, List.getElem?_map, List.getElem?_range (by omega)]
  rfl
/-- The guess was one too much: the borrow's law, and the row when the divisor is added again. -/
theorem KE.over {uL qL v : List Nat} {V A j n G : Nat} (H : KE uL qL V A (j + 1) n) (hv : DigL v) (hn : v.length = n) (hV : V = valL v) (hV0 : 0 < V) (hj : j + n < uL.length) (hq : j < qL.length) (hg0 : valL (uL.drop j) / V ≤ G) (hg1 : G ≤ valL (uL.drop j) / V + 1) (hG : G < 65536)
    (h : uL.getD (j + n) 0 < msB G (uL.drop j) v n + msC G v n) :
    1 ≤ G ∧ msB G (uL.drop j) v n + msC G v n = uL.getD (j + n) 0 + 1 ∧ adC ((List.range n).map (msD G (uL.drop j) v)) v n = 1 ∧
    KE ((kmL ((kmL uL j (msD G (uL.drop j) v) n).set (j + n) 65535) j (adD ((List.range n).map (msD G (uL.drop j) v)) v) n).set (j + n) 0) (qL.set j (G - 1)) V A j n := by
  have hz : valL (uL.drop (j + n + 1)) = 0 := by have := H.top; rw [show j + n + 1 = j + 1 + n by omega]; exact this
  have hx := H.du.drop j
  obtain ⟨e1, e2, e3⟩ := kn_over hx hv hn (kn_W hj hz) hV hg0 hg1 hV0 h
  have hX : DigL ((List.range n).map (msD G (uL.drop j) v)) := DigL.map n _ (fun i _ => (ms_dig hx i).1)
  obtain ⟨b1, b2⟩ := kn_back hX (by simp) hv hn hV (Nat.mod_lt (valL (uL.drop j)) hV0) e3
  have hl : ((kmL uL j (msD G (uL.drop j) v) n).set (j + n) 65535).length = uL.length := by rw [List.length_set, kmL_len _ (by omega)]
  have hz2 : valL (((kmL uL j (msD G (uL.drop j) v) n).set (j + n) 65535).drop (j + n + 1)) = 0 := by rw [kmL_above _ _ hj]; exact hz
  obtain ⟨k1, k2, k3⟩ := kn_left (adD ((List.range n).map (msD G (uL.drop j) v)) v) (by rw [hl]; exact hj) hz2 b2
  rw [kmL_take _ _ (by omega)] at k1
  have hdm : DigL ((kmL uL j (msD G (uL.drop j) v) n).set (j + n) 65535) := (kmL_dig H.du (fun i => (ms_dig hx i).1)).set _ _ (by decide)
  refine ⟨by rw [e1]; exact Nat.le_add_left _ _, e2, b1, H.next hq (by rw [e1]; rfl) (by omega) hV0 (by omega) ((kmL_dig hdm (fun i => ?_)).set _ _ (by decide)) k1 k2 k3⟩
  unfold adD; omega
/-- The row's digit that a round of the adding reads. -/
theorem back_get {uL : List Nat} {j n i d : Nat} {f g : Nat → Nat} (hj : j + n < uL.length) (hi : i < n) : (kmL ((kmL uL j f n).set (j + n) d) j g i).getD (j + i) 0 = ((List.range n).map f).getD i 0 := by
  have hl : ((kmL uL j f n).set (j + n) d).length = uL.length := by rw [List.length_set, kmL_len _ (by omega)]
  rw [kmL_get _ (by omega) (Nat.le_refl _), getD_set _ _ _ _ (by rw [kmL_len _ (by omega)]; exact hj), if_neg (by omega), kmL_getm f (by omega) hi]
  rw [List.getD_eq_getElem?_getD, List.getElem?_map, List.getElem?_range hi]
  rfl
theorem back_top {uL : List Nat} {j n d : Nat} {f g : Nat → Nat} (hj : j + n < uL.length) : (kmL ((kmL uL j f n).set (j + n) d) j g n).getD (j + n) 0 = d := by
  have hl : ((kmL uL j f n).set (j + n) d).length = uL.length := by rw [List.length_set, kmL_len _ (by omega)]
  rw [kmL_get _ (by omega) (Nat.le_refl _), getD_set _ _ _ _ (by rw [kmL_len _ (by omega)]; exact hj), if_pos rfl]
end Go.Proofs.YtogmmhacjndebaaDoor
