/- Knuth's division, digit by digit: plain laws. No program. -/
import Derived.Test.YtogmmhacjndebaaDoorN11
namespace Go.Proofs.YtogmmhacjndebaaDoor
set_option linter.unusedSimpArgs false
set_option linter.unusedVariables false
/-- What is known of a window W and a divisor V: their highest digits, the rest below P. -/
structure Kn (W V t w2 v1 v2 P : Nat) : Prop where
  w2lt : w2 < 65536
  v2lt : v2 < 65536
  v1ge : 32768 ≤ v1
  v1lt : v1 < 65536
  Vge : (v1 * 65536 + v2) * P ≤ V
  Vlt : V < (v1 * 65536 + v2 + 1) * P
  Wge : (t * 65536 + w2) * P ≤ W
  Wlt : W < (t * 65536 + w2 + 1) * P
  small : W < 65536 * V
theorem Kn.Ppos {W V t w2 v1 v2 P : Nat} (K : Kn W V t w2 v1 v2 P) : 0 < P := by
  rcases Nat.eq_zero_or_pos P with h | h
  · have := K.Vlt
    rw [h, Nat.mul_zero] at this
    omega
  · exact h
theorem Kn.Vpos {W V t w2 v1 v2 P : Nat} (K : Kn W V t w2 v1 v2 P) : 0 < V := by
  have := K.small
  omega
theorem Kn.t_lt {W V t w2 v1 v2 P : Nat} (K : Kn W V t w2 v1 v2 P) : t < 65536 * v1 + 65536 := by
  have h1 : (t * 65536) * P ≤ W := Nat.le_trans (Nat.mul_le_mul_right P (by omega)) K.Wge
  have h2 : 65536 * V < 65536 * ((v1 * 65536 + v2 + 1) * P) := by have := K.Vlt; omega
  have h3 : (v1 * 65536 + v2 + 1) * P ≤ ((v1 + 1) * 65536) * P := Nat.mul_le_mul_right P (by have := K.v2lt; omega)
  have h4 : (t * 65536) * P < (65536 * ((v1 + 1) * 65536)) * P := by
    rw [Nat.mul_assoc 65536]
    have := K.small
    omega
  have h5 := Nat.lt_of_mul_lt_mul_right h4
  omega
theorem Kn.q_lt {W V t w2 v1 v2 P : Nat} (K : Kn W V t w2 v1 v2 P) : W / V < 65536 := Nat.div_lt_of_lt_mul (by have := K.small; rw [Nat.mul_comm] at this; exact this)
theorem Kn.start {W V t w2 v1 v2 P g r : Nat} (K : Kn W V t w2 v1 v2 P) (h : g * v1 + r = t) (hr : r < v1) : W / V ≤ g := by
  rcases Nat.lt_or_ge g (W / V) with hg | hg
  · exfalso
    have h1 : (g + 1) * V ≤ W := Nat.le_trans (Nat.mul_le_mul_right V hg) (Nat.div_mul_le_self W V)
    have h2 : ((g + 1) * v1) * (65536 * P) ≤ (g + 1) * V := by
      rw [Nat.mul_assoc]
      refine Nat.mul_le_mul_left _ (Nat.le_trans ?_ K.Vge)
      rw [← Nat.mul_assoc]
      exact Nat.mul_le_mul_right P (by omega)
    have h3 : t + 1 ≤ (g + 1) * v1 := by rw [Nat.add_mul]; omega
    have h4 : (t + 1) * (65536 * P) ≤ ((g + 1) * v1) * (65536 * P) := Nat.mul_le_mul_right _ h3
    have h5 : (t * 65536 + w2 + 1) * P ≤ (t + 1) * (65536 * P) := by
      rw [← Nat.mul_assoc]
      exact Nat.mul_le_mul_right P (by have := K.w2lt; omega)
    have := K.Wlt
    omega
  · exact hg
theorem Kn.start_le {W V t w2 v1 v2 P g r : Nat} (K : Kn W V t w2 v1 v2 P) (h : g * v1 + r = t) : g ≤ 65537 := by
  have h1 := K.t_lt
  have h2 := K.v1ge
  rcases Nat.lt_or_ge g 65538 with h3 | h3
  · omega
  · have := Nat.mul_le_mul_right v1 h3
    omega
theorem Kn.down1 {W V t w2 v1 v2 P g : Nat} (K : Kn W V t w2 v1 v2 P) (h : 65535 < g) : W / V ≤ g - 1 := by
  have := K.q_lt
  omega
theorem Kn.down2 {W V t w2 v1 v2 P g r : Nat} (K : Kn W V t w2 v1 v2 P) (h : g * v1 + r = t) (hd : r * 65536 + w2 < g * v2) : W / V ≤ g - 1 := by
  have h1 : t * 65536 + w2 + 1 ≤ g * (v1 * 65536 + v2) := by
    rw [Nat.mul_add, ← Nat.mul_assoc, ← h, Nat.add_mul]
    omega
  have h2 : W < g * V := by
    refine Nat.lt_of_lt_of_le K.Wlt (Nat.le_trans (Nat.mul_le_mul_right P h1) ?_)
    rw [Nat.mul_assoc]
    exact Nat.mul_le_mul_left g K.Vge
  have h3 : W / V < g := Nat.div_lt_of_lt_mul (by rw [Nat.mul_comm]; exact h2)
  omega
theorem Kn.done {W V t w2 v1 v2 P g r : Nat} (K : Kn W V t w2 v1 v2 P) (h : g * v1 + r = t) (hg : g ≤ 65535) (hd : g * v2 ≤ r * 65536 + w2) : g ≤ W / V + 1 := by
  have h1 : g * (v1 * 65536 + v2) ≤ t * 65536 + w2 := by
    rw [Nat.mul_add, ← Nat.mul_assoc, ← h, Nat.add_mul]
    omega
  have h2 : g * (v1 * 65536 + v2) * P ≤ W := Nat.le_trans (Nat.mul_le_mul_right P h1) K.Wge
  have h3 : g * V ≤ g * ((v1 * 65536 + v2 + 1) * P) := Nat.mul_le_mul_left g (Nat.le_of_lt K.Vlt)
  have h4 : g * ((v1 * 65536 + v2 + 1) * P) = g * (v1 * 65536 + v2) * P + g * P := by
    rw [← Nat.mul_assoc, Nat.mul_add g, Nat.mul_one, Nat.add_mul]
  have h5 : g * P ≤ 65535 * P := Nat.mul_le_mul_right P hg
  have h6 : 65536 * P ≤ V := Nat.le_trans (Nat.mul_le_mul_right P (by have := K.v1ge; omega)) K.Vge
  have hp := K.Ppos
  have h7 : g * V < W + V := by omega
  have h8 : W < W / V * V + V := by
    have := Nat.div_add_mod W V
    have h := Nat.mod_lt W K.Vpos
    rw [Nat.mul_comm] at this
    omega
  have h9 : g * V < (W / V + 2) * V := by rw [Nat.add_mul]; omega
  have := Nat.lt_of_mul_lt_mul_right h9
  omega
theorem Kn.broke {W V t w2 v1 v2 P g r : Nat} (K : Kn W V t w2 v1 v2 P) (h : g * v1 + r = t) (hr : 65536 ≤ r) : g ≤ 65535 ∧ g * v2 ≤ r * 65536 + w2 := by
  have h1 := K.t_lt
  have h2 : g * v1 < 65536 * v1 := by omega
  have h3 := Nat.lt_of_mul_lt_mul_right h2
  refine ⟨by omega, ?_⟩
  have h4 : g * v2 ≤ 65536 * v2 := Nat.mul_le_mul_right v2 (by omega)
  have := K.v2lt
  omega
/-- The row l, its digits from j on replaced by f's first i. -/
def kmL (l : List Nat) (j : Nat) (f : Nat → Nat) (i : Nat) : List Nat := l.take j ++ ((List.range i).map f ++ l.drop (j + i))
theorem kmL_zero (l : List Nat) (j : Nat) (f : Nat → Nat) : kmL l j f 0 = l := by unfold kmL; simp
theorem kmL_len {l : List Nat} {j i : Nat} (f : Nat → Nat) (h : j + i ≤ l.length) : (kmL l j f i).length = l.length := by
  unfold kmL
  simp only [List.length_append, List.length_take, List.length_map, List.length_range, List.length_drop]
  omega
theorem kmL_get {l : List Nat} {j i t : Nat} (f : Nat → Nat) (h : j + i ≤ l.length) (ht : j + i ≤ t) : (kmL l j f i).getD t 0 = l.getD t 0 := by
  unfold kmL
  rw [List.getD_eq_getElem?_getD, List.getD_eq_getElem?_getD, List.getElem?_append_right (by rw [List.length_take]; omega), List.getElem?_append_right (by simp only [List.length_take, List.length_map, List.length_range]; omega), List.getElem?_drop]
  congr 2
  simp only [List.length_take, List.length_map, List.length_range]
  omega
theorem kmL_step {l : List Nat} {j i : Nat} (f : Nat → Nat) (h : j + i < l.length) : (kmL l j f i).set (j + i) (f i) = kmL l j f (i + 1) := by
  unfold kmL
  rw [drop_getD l (j + i) h, range_succ_map, List.set_append_right _ _ (by rw [List.length_take]; omega), List.set_append_right _ _ (by simp only [List.length_take, List.length_map, List.length_range]; omega)]
  rw [show j + i - (l.take j).length - ((List.range i).map f).length = 0 by simp only [List.length_take, List.length_map, List.length_range]; omega]
  rw [List.set_cons_zero, List.append_assoc, Nat.add_assoc]
  rfl
theorem kmL_val {l : List Nat} {j i : Nat} (f : Nat → Nat) (h : j + i ≤ l.length) : valL (kmL l j f i) = valL (l.take j) + 65536 ^ j * (valL ((List.range i).map f) + 65536 ^ i * valL (l.drop (j + i))) := by
  unfold kmL
  rw [val_app, val_app, List.length_take, List.length_map, List.length_range, Nat.min_eq_left (by omega)]
theorem kmL_top {l : List Nat} {j n : Nat} (f : Nat → Nat) (d : Nat) (h : j + n < l.length) (hz : valL (l.drop (j + n + 1)) = 0) : valL ((kmL l j f n).set (j + n) d) = valL (l.take j) + 65536 ^ j * (valL ((List.range n).map f) + 65536 ^ n * d) := by
  have h1 := val_set (kmL l j f n) (j + n) d (by rw [kmL_len f (by omega)]; exact h)
  rw [kmL_get f (by omega) (Nat.le_refl _), kmL_val f (by omega), val_drop l (j + n) h, hz, Nat.mul_zero, Nat.add_zero] at h1
  rw [Nat.mul_add] at h1 ⊢
  rw [← Nat.mul_assoc, ← Nat.pow_add] at h1 ⊢
  omega
def msC (g : Nat) (v : List Nat) : Nat → Nat
  | 0 => 0
  | i + 1 => (g * v.getD i 0 + msC g v i) / 65536
def msB (g : Nat) (x v : List Nat) : Nat → Nat
  | 0 => 0
  | i + 1 => if x.getD i 0 < msB g x v i + (g * v.getD i 0 + msC g v i) % 65536 then 1 else 0
def msD (g : Nat) (x v : List Nat) (i : Nat) : Nat := (x.getD i 0 + 65536 * msB g x v (i + 1)) - msB g x v i - (g * v.getD i 0 + msC g v i) % 65536
theorem msC_le {g : Nat} {v : List Nat} (hg : g ≤ 65535) (hv : DigL v) : ∀ i, msC g v i ≤ 65534
  | 0 => by unfold msC; omega
  | i + 1 => by
    rw [msC]
    have h1 := msC_le hg hv i
    have h2 := hv.getD i
    have h3 : g * v.getD i 0 ≤ 65535 * 65535 := Nat.mul_le_mul hg (by omega)
    omega
theorem msB_le (g : Nat) (x v : List Nat) : ∀ i, msB g x v i ≤ 1
  | 0 => by unfold msB; omega
  | i + 1 => by rw [msB]; split <;> omega
theorem ms_dig {g : Nat} {x v : List Nat} (hx : DigL x) (i : Nat) : msD g x v i < 65536 ∧ msD g x v i + msB g x v i + (g * v.getD i 0 + msC g v i) % 65536 = x.getD i 0 + 65536 * msB g x v (i + 1) := by
  unfold msD
  have h1 := msB_le g x v i
  have h2 := hx.getD i
  rw [msB]
  split <;> omega
theorem ms_val {g : Nat} {x v : List Nat} (hx : DigL x) : ∀ k, valL ((List.range k).map (msD g x v)) + g * valL (v.take k) = valL (x.take k) + 65536 ^ k * (msB g x v k + msC g v k)
  | 0 => by simp [valL, msB, msC]
  | k + 1 => by
    have ih := ms_val hx k (g := g) (v := v)
    obtain ⟨_, h2⟩ := ms_dig (g := g) (v := v) hx k
    rw [range_succ_map, val_snoc, List.length_map, List.length_range, val_take_succ', val_take_succ', Nat.mul_add g, Nat.pow_succ]
    have h3 : msC g v (k + 1) = (g * v.getD k 0 + msC g v k) / 65536 := rfl
    rw [h3]
    have h4 := Nat.div_add_mod (g * v.getD k 0 + msC g v k) 65536
    generalize (g * v.getD k 0 + msC g v k) / 65536 = Q at *
    generalize (g * v.getD k 0 + msC g v k) % 65536 = R at *
    generalize msD g x v k = D at *
    generalize msB g x v (k + 1) = b1 at *
    generalize msB g x v k = b0 at *
    generalize msC g v k = c0 at *
    rw [show g * (65536 ^ k * v.getD k 0) = 65536 ^ k * (g * v.getD k 0) by rw [← Nat.mul_assoc, Nat.mul_comm g, Nat.mul_assoc]]
    generalize g * v.getD k 0 = gv at *
    generalize x.getD k 0 = xk at *
    generalize 65536 ^ k = A at *
    have e : A * D + A * gv + A * (b0 + c0) = A * xk + A * 65536 * (b1 + Q) := by
      rw [Nat.mul_assoc, ← Nat.mul_add, ← Nat.mul_add, ← Nat.mul_add]
      congr 1
      omega
    omega
theorem val_rest {l : List Nat} {j : Nat} (h : l.length ≤ j) : valL (l.drop j) = 0 := by rw [List.drop_of_length_le h]; rfl
theorem Kn.of {l v : List Nat} {j n k : Nat} (dl : DigL l) (dv : DigL v) (hn : v.length = n) (h2 : n = k + 2) (hj : j + n < l.length) (hz : valL (l.drop (j + n + 1)) = 0) (hv1 : 32768 ≤ v.getD (k + 1) 0) (hlt : valL (l.drop (j + 1)) < valL v) :
    Kn (valL (l.drop j)) (valL v) (l.getD (j + n) 0 * 65536 + l.getD (j + k + 1) 0) (l.getD (j + k) 0) (v.getD (k + 1) 0) (v.getD k 0) (65536 ^ k) := by
  subst h2
  have hv : valL v = valL (v.take k) + 65536 ^ k * (v.getD (k + 1) 0 * 65536 + v.getD k 0) := by
    rw [val_split v k (by omega), val_drop v k (by omega), val_drop v (k + 1) (by omega), val_rest (l := v) (j := k + 1 + 1) (by omega)]
    congr 2
    omega
  have hl : valL (l.drop j) = valL ((l.drop j).take k) + 65536 ^ k * ((l.getD (j + (k + 2)) 0 * 65536 + l.getD (j + k + 1) 0) * 65536 + l.getD (j + k) 0) := by
    rw [val_split (l.drop j) k (by rw [List.length_drop]; omega), List.drop_drop, val_drop l (j + k) (by omega), val_drop l (j + k + 1) (by omega), val_drop l (j + k + 1 + 1) (by omega), show j + k + 1 + 1 + 1 = j + (k + 2) + 1 by omega, hz]
    congr 2
    rw [show j + k + 1 + 1 = j + (k + 2) by omega]
    omega
  have h1 := val_lt (dv.take k)
  rw [List.length_take, Nat.min_eq_left (by omega)] at h1
  have h3 := val_lt ((dl.drop j).take k)
  rw [List.length_take, Nat.min_eq_left (by rw [List.length_drop]; omega)] at h3
  have h4 := dl.getD (j + k)
  have h5 := dv.getD k
  have h6 := dv.getD (k + 1)
  refine ⟨h4, h5, hv1, h6, ?_, ?_, ?_, ?_, ?_⟩
  · rw [hv, Nat.mul_comm]; omega
  · rw [hv, Nat.add_mul _ 1, Nat.one_mul, Nat.mul_comm _ (65536 ^ k)]; omega
  · rw [hl, Nat.mul_comm _ (65536 ^ k)]; omega
  · rw [hl, Nat.add_mul _ 1, Nat.one_mul, Nat.mul_comm _ (65536 ^ k)]; omega
  · rw [val_drop l j (by omega)]
    have := dl.getD j
    omega
theorem pow_pos_b (n : Nat) : 0 < 65536 ^ n := Nat.pow_pos (by decide)
/-- One round: the guess was right. -/
theorem kn_right {x v : List Nat} {n g W V top : Nat} (hx : DigL x) (hv : DigL v) (hn : v.length = n) (hW : W = valL (x.take n) + 65536 ^ n * top) (hV : V = valL v) (hg0 : W / V ≤ g) (hg1 : g ≤ W / V + 1) (hV0 : 0 < V) (h : msB g x v n + msC g v n ≤ top) :
    g = W / V ∧ top = msB g x v n + msC g v n ∧ valL ((List.range n).map (msD g x v)) = W % V := by
  have E := ms_val hx n (g := g) (v := v)
  rw [take_all (by omega : v.length ≤ n), ← hV] at E
  have hXd : DigL ((List.range n).map (msD g x v)) := DigL.map n _ (fun i _ => (ms_dig hx i).1)
  have hX := val_lt hXd
  rw [List.length_map, List.length_range] at hX
  have hVb : V < 65536 ^ n := by rw [hV, ← hn]; exact val_lt hv
  have hD := Nat.div_add_mod W V
  rw [Nat.mul_comm] at hD
  have hm := Nat.mod_lt W hV0
  generalize valL ((List.range n).map (msD g x v)) = X at *
  generalize msB g x v n + msC g v n = bc at *
  generalize 65536 ^ n = A at *
  obtain ⟨e, he⟩ : ∃ e, top = bc + e := ⟨top - bc, by omega⟩
  subst he
  rw [Nat.mul_add] at hW
  have hgW : g * V ≤ W := by omega
  have hgq : g = W / V := by
    rcases Nat.lt_or_ge g (W / V + 1) with h1 | h1
    · omega
    · exfalso
      have h2 : (W / V + 1) * V ≤ g * V := Nat.mul_le_mul_right V h1
      rw [Nat.add_mul] at h2
      omega
  subst hgq
  have he0 : e = 0 := by
    rcases Nat.eq_zero_or_pos e with h1 | h1
    · exact h1
    · exfalso
      have := Nat.mul_le_mul_left A h1
      omega
  subst he0
  rw [Nat.mul_zero] at hW
  exact ⟨rfl, rfl, by omega⟩
/-- One round: the guess was one too much. -/
theorem kn_over {x v : List Nat} {n g W V top : Nat} (hx : DigL x) (hv : DigL v) (hn : v.length = n) (hW : W = valL (x.take n) + 65536 ^ n * top) (hV : V = valL v) (hg0 : W / V ≤ g) (hg1 : g ≤ W / V + 1) (hV0 : 0 < V) (h : top < msB g x v n + msC g v n) :
    g = W / V + 1 ∧ msB g x v n + msC g v n = top + 1 ∧ valL ((List.range n).map (msD g x v)) + V = W % V + 65536 ^ n := by
  have E := ms_val hx n (g := g) (v := v)
  rw [take_all (by omega : v.length ≤ n), ← hV] at E
  have hXd : DigL ((List.range n).map (msD g x v)) := DigL.map n _ (fun i _ => (ms_dig hx i).1)
  have hX := val_lt hXd
  rw [List.length_map, List.length_range] at hX
  have hVb : V < 65536 ^ n := by rw [hV, ← hn]; exact val_lt hv
  have hD := Nat.div_add_mod W V
  rw [Nat.mul_comm] at hD
  have hm := Nat.mod_lt W hV0
  generalize valL ((List.range n).map (msD g x v)) = X at *
  generalize msB g x v n + msC g v n = bc at *
  generalize 65536 ^ n = A at *
  obtain ⟨e, he⟩ : ∃ e, bc = top + 1 + e := ⟨bc - top - 1, by omega⟩
  subst he
  rw [Nat.mul_add, Nat.mul_add, Nat.mul_one] at E
  have hgq : g = W / V + 1 := by
    rcases Nat.lt_or_ge (W / V) g with h1 | h1
    · omega
    · exfalso
      have h2 : g = W / V := by omega
      rw [h2] at E
      omega
  subst hgq
  rw [Nat.add_mul, Nat.one_mul] at E
  have he0 : e = 0 := by
    rcases Nat.eq_zero_or_pos e with h1 | h1
    · exact h1
    · exfalso
      have := Nat.mul_le_mul_left A h1
      omega
  subst he0
  rw [Nat.mul_zero] at E
  exact ⟨rfl, rfl, by omega⟩
/-- The divisor is added again. -/
theorem kn_back {X v : List Nat} {n R V : Nat} (hX : DigL X) (hXn : X.length = n) (hv : DigL v) (hn : v.length = n) (hV : V = valL v) (hR : R < V) (h : valL X + V = R + 65536 ^ n) :
    adC X v n = 1 ∧ valL ((List.range n).map (adD X v)) = R := by
  have E := ad_val X v n
  rw [take_all (by omega : X.length ≤ n), take_all (by omega : v.length ≤ n), ← hV, h] at E
  have hY := val_lt (DigL.map n (adD X v) (fun i _ => by unfold adD; omega))
  rw [List.length_map, List.length_range] at hY
  have hVb : V < 65536 ^ n := by rw [hV, ← hn]; exact val_lt hv
  have hc := adC_le hX hv n
  generalize valL ((List.range n).map (adD X v)) = Y at *
  rcases (show adC X v n = 0 ∨ adC X v n = 1 by omega) with h1 | h1
  · rw [h1, Nat.mul_zero] at E
    omega
  · rw [h1, Nat.mul_one] at E
    exact ⟨h1, by omega⟩
theorem kmL_take {l : List Nat} {j n : Nat} (f : Nat → Nat) (d : Nat) (h : j + n ≤ l.length) : ((kmL l j f n).set (j + n) d).take j = l.take j := by
  rw [List.take_set_of_le (by omega)]
  unfold kmL
  rw [List.take_append_of_le_length (by rw [List.length_take]; omega), List.take_take]
  congr 1
  omega
theorem kmL_above {l : List Nat} {j n : Nat} (f : Nat → Nat) (d : Nat) (h : j + n < l.length) : ((kmL l j f n).set (j + n) d).drop (j + n + 1) = l.drop (j + n + 1) := by
  rw [List.drop_set_of_lt (by omega)]
  unfold kmL
  rw [List.drop_append, List.drop_append, List.drop_of_length_le (by rw [List.length_take]; omega), List.drop_of_length_le (by simp only [List.length_take, List.length_map, List.length_range]; omega), List.drop_drop]
  rw [List.nil_append, List.nil_append]
  congr 1
  simp only [List.length_take, List.length_map, List.length_range]
  omega
/-- What a round leaves: the row's new end, its value, its window. -/
theorem kn_left {l : List Nat} {j n R : Nat} (f : Nat → Nat) (h : j + n < l.length) (hz : valL (l.drop (j + n + 1)) = 0) (hR : valL ((List.range n).map f) = R) :
    valL ((kmL l j f n).set (j + n) 0) = valL (l.take j) + 65536 ^ j * R ∧ valL (((kmL l j f n).set (j + n) 0).drop j) = R ∧ valL (((kmL l j f n).set (j + n) 0).drop (j + n)) = 0 := by
  have h1 := kmL_top f 0 h hz
  rw [hR, Nat.mul_zero, Nat.add_zero] at h1
  have hl : ((kmL l j f n).set (j + n) 0).length = l.length := by rw [List.length_set, kmL_len f (by omega)]
  refine ⟨h1, ?_, ?_⟩
  · have h2 := val_split ((kmL l j f n).set (j + n) 0) j (by omega)
    rw [kmL_take f 0 (by omega), h1] at h2
    have h3 : 65536 ^ j * R = 65536 ^ j * valL (((kmL l j f n).set (j + n) 0).drop j) := by omega
    exact (Nat.eq_of_mul_eq_mul_left (pow_pos_b j) h3).symm
  · rw [val_drop _ _ (by omega), kmL_above f 0 h, hz, getD_set _ _ _ _ (by rw [kmL_len f (by omega)]; exact h), if_pos rfl]
/-- The outer loop's law: quotient times divisor, and what is left. -/
theorem kn_sum {q l l2 : List Nat} {j A V : Nat} (H : valL q * V + valL l = A) (hj : j < q.length) (h0 : q.getD j 0 = 0) (hl : j ≤ l.length) (h2 : valL l2 = valL (l.take j) + 65536 ^ j * (valL (l.drop j) % V)) :
    valL (q.set j (valL (l.drop j) / V)) * V + valL l2 = A := by
  have h1 := val_set q j (valL (l.drop j) / V) hj
  rw [h0, Nat.mul_zero, Nat.add_zero] at h1
  rw [h1, h2, Nat.add_mul, ← H, val_split l j hl, Nat.mul_assoc]
  have h3 := Nat.div_add_mod (valL (l.drop j)) V
  rw [Nat.mul_comm V] at h3
  generalize valL (l.drop j) / V * V = x at *
  generalize valL (l.drop j) % V = y at *
  rw [← h3, Nat.mul_add]
  omega
end Go.Proofs.YtogmmhacjndebaaDoor
