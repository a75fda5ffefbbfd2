/- Contracts of big.numbers and big.Mul, and what an own row of digits is good for. Conditions: as each says. -/
import Derived.Test.YtogmmhacjndebaaDoorN2
import Derived.Test.YtogmmhacjndebaaDoorWv8h
namespace Go.Proofs.YtogmmhacjndebaaDoor
open Go.RowKit
set_option linter.unusedSimpArgs false
set_option linter.unusedVariables false
theorem info_u16 : (Tryd.prog.info? 31).map (fun i => (i.zero, i.size, i.bytes)) = some (some (.int .u16 0), 1, 2) := by kernel_rfl
theorem one_u16 {d : Int} : ∀ u ∈ [Value.int .u16 d], u.oneCell' = true := fun u hu => by
  rcases List.mem_singleton.1 hu with rfl
  rfl
/-- The value v is a row of digits l of the call's own, from block base on. -/
def OwnU (w : World) (base : Nat) (v : Value) (l : List Nat) : Prop := w.ownsRow base 31 1 v l.length (l.map fun d : Nat => Value.int .u16 (d : Int))
theorem OwnU.nil (w : World) (base : Nat) : OwnU w base (.slice none 0 0) [] := World.ownsRow_nil _ _ _ _
theorem own_lt {w : World} {base : Nat} {v : Value} {l : List Nat} (h : OwnU w base v l) : ∀ k, v.ownBlock = some k → base ≤ k := fun k hk => (World.ownsRow.lt h k hk).1
theorem owns_at0 {w : World} {base : Nat} {e : TypeId} {size g c : Nat} {n : Nat} {xs : List Value} (h : w.ownsRow base e size (.slice (some ⟨g, 0, none⟩) n c) n xs) (G : Nat → Value) (hG : ∀ t, t < n * size → xs[t]? = some (G t)) : Row w g (n * size) G := by
  rcases h.2 with ⟨h1, _⟩ | ⟨g', cap, cur, h1, hb, hgg, hnc, _, _, htake⟩
  · cases h1
  · cases h1
    refine ⟨fun t ht => ?_, fun t _ => ?_, (Array.getElem?_eq_some_iff.1 hgg).1⟩
    · have := h.cells (g := g) rfl t (G t) (hG t ht)
      have hadd : (⟨g, 0, none⟩ : Addr).add t = ⟨g, t, none⟩ := by unfold Addr.add; split <;> simp_all
      rw [hadd] at this
      exact this
    · unfold World.frozen?
      rw [hgg]
      simp
theorem own_sl {w : World} {base : Nat} {v : Value} {l : List Nat} (h : OwnU w base v l) : ∃ ad c, v = .slice ad l.length c ∧ l.length ≤ c ∧ Sl .u16 w ad l.length (gi l) := by
  have h' := h
  rcases h.2 with ⟨rfl, h0⟩ | ⟨g, cap, cur, rfl, hb, hgg, hnc, _, _, htake⟩
  · have e : l = [] := by simpa using h0
    subst e
    exact ⟨none, 0, rfl, Nat.le_refl _, Sl.none _ _ _ _⟩
  · refine ⟨_, cap, rfl, hnc, fun i hi => ?_⟩
    have r := owns_at0 h' (fun i => .int .u16 (gi l i)) (fun t ht => by
      rw [Nat.mul_one] at ht
      rw [List.getElem?_map, List.getElem?_eq_getElem ht]
      show some _ = some _
      congr 2
      rw [List.getD_eq_getElem?_getD, List.getElem?_eq_getElem ht]; rfl)
    rw [Nat.mul_one] at r
    refine ⟨_, rfl, r.lt, ?_⟩
    have hadd : (⟨g, 0, none⟩ : Addr).add i = ⟨g, i, none⟩ := by unfold Addr.add; split <;> simp_all
    rw [hadd]
    exact r.at i hi
theorem own_app {w : World} {base : Nat} {v : Value} {l : List Nat} {d : Nat} {D : Int} (e : D = (d : Int)) (h : w.ownsRow base 31 1 v (l.length + 1) ((l.map fun d : Nat => Value.int .u16 (d : Int)) ++ [.int .u16 D])) : OwnU w base v (l ++ [d]) := by
  unfold OwnU
  rw [List.length_append, List.length_singleton, List.map_append, List.map_singleton, ← e]
  exact h
theorem row_set64 {w : World} {b n : Nat} {f f' : Nat → Int} (r : Row w b n (oi f)) (K : Nat) (hK : K < n) (v : Int) (h : ∀ t, t < n → f' t = if t = K then v else f t) : Row (w.setCell ⟨b, K, none⟩ (.int .i64 v)) b n (oi f') :=
  (r.set K hK _).congr (fun i hi => by unfold upd oi; rw [h i hi]; split <;> rfl)
def ou (a : Nat → Int) (t : Nat) : Value := .int .u16 (a t)
theorem madeu_get {v : Value} (hv : v = .int .u16 0) {n t : Nat} (h : t < n) : ((madeCells v.cells n).toList)[t]? = some (ou (gi (List.replicate n 0)) t) := by
  have e : v.cells = #[.int .u16 0] := by rw [hv]; rfl
  rw [e, toList_madeCells_one, List.getElem?_replicate, if_pos h]
  unfold ou gi
  rw [List.getD_eq_getElem?_getD, List.getElem?_replicate, if_pos h]
  rfl
theorem row_setu {w : World} {b n : Nat} {f f' : Nat → Int} (r : Row w b n (ou f)) (K : Nat) (hK : K < n) (v : Int) (h : ∀ t, t < n → f' t = if t = K then v else f t) : Row (w.setCell ⟨b, K, none⟩ (.int .u16 v)) b n (ou f') :=
  (r.set K hK _).congr (fun i hi => by unfold upd ou; rw [h i hi]; split <;> rfl)
theorem row_setl {w : World} {b n : Nat} {l : List Nat} (r : Row w b n (ou (gi l))) (hl : l.length = n) (K d : Nat) (hK : K < n) (v : Int) (hv : v = (d : Int)) : Row (w.setCell ⟨b, K, none⟩ (.int .u16 v)) b n (ou (gi (l.set K d))) :=
  row_setu r K hK v (fun t ht => by
    unfold gi
    rw [getD_set l K d t (by omega)]
    split
    · exact hv.symm
    · rfl)
theorem row_sl64 {w : World} {g n : Nat} {h : Nat → Int} (r : Row w g n (oi h)) : Sl .i64 w (some ⟨g, 0, none⟩) n h := fun i hi =>
  ⟨_, rfl, r.lt, by
    have hadd : (⟨g, 0, none⟩ : Addr).add i = ⟨g, i, none⟩ := by unfold Addr.add; split <;> simp_all
    rw [hadd]
    exact r.at i hi⟩
theorem row_slu {w : World} {g n : Nat} {h : Nat → Int} (r : Row w g n (ou h)) : Sl .u16 w (some ⟨g, 0, none⟩) n h := fun i hi =>
  ⟨_, rfl, r.lt, by
    have hadd : (⟨g, 0, none⟩ : Addr).add i = ⟨g, i, none⟩ := by unfold Addr.add; split <;> simp_all
    rw [hadd]
    exact r.at i hi⟩
theorem trim_k (l : List Nat) : ∀ k, k ≤ l.length → valL (l.take k) = valL l → ∃ j, j ≤ k ∧ valL (l.take j) = valL l ∧ (j = 0 ∨ l.getD (j - 1) 0 ≠ 0)
  | 0, _, e => ⟨0, Nat.le_refl _, e, Or.inl rfl⟩
  | k + 1, hk, e => by
    by_cases hz : l.getD k 0 = 0
    · obtain ⟨j, h1, h2, h3⟩ := trim_k l k (by omega) (trim_step (by omega) e hz)
      exact ⟨j, by omega, h2, h3⟩
    · exact ⟨k + 1, Nat.le_refl _, e, Or.inr hz⟩
theorem trim_take {l : List Nat} (hd : DigL l) : (dg (valL l)).length ≤ l.length ∧ l.take (dg (valL l)).length = dg (valL l) := by
  obtain ⟨j, h1, h2, h3⟩ := trim_k l l.length (Nat.le_refl _) (by rw [List.take_length])
  have e := trim_end hd h1 h2 h3
  have hl : (dg (valL l)).length = j := by rw [← e, List.length_take]; omega
  rw [hl]
  exact ⟨h1, e⟩
theorem bigTrim_own (w : World) (base : Nat) (v : Value) (l : List Nat) (h : OwnU w base v l) (hd : DigL l) (hz : l.length ≤ 100000) :
    Calls Tryd.prog 21 #[v] w fun e w' => w = w' ∧ ∃ ad c, e = .returned (.slice ad (dg (valL l)).length c) ∧ (dg (valL l)).length ≤ c ∧ Sl .u16 w ad (dg (valL l)).length (gi (dg (valL l))) := by
  obtain ⟨ad, c, rfl, hc, hs⟩ := own_sl h
  obtain ⟨k1, k2⟩ := trim_take hd
  refine (bigTrim_any ad l.length c l rfl hc hz hd w hs).mono ?_
  rintro e w' ⟨rfl, rfl⟩
  refine ⟨rfl, ad, c, rfl, by omega, ?_⟩
  have h2 := sl_take hs k1
  rw [k2] at h2
  exact h2
/-- A row of digits came back, of the call's own. -/
def RetO (l : List Nat) (w : World) (e : Ending) (w' : World) : Prop := ∃ v, e = .returned v ∧ OwnU w' w.heap.size v l ∧ Below w.heap.size w w'
/-- A row of digits came back. -/
def RetU (l : List Nat) (w : World) (e : Ending) (w' : World) : Prop := ∃ ad c, e = .returned (.slice ad l.length c) ∧ l.length ≤ c ∧ Sl .u16 w' ad l.length (gi l) ∧ Below w.heap.size w w'
set_option maxRecDepth 100000 in
set_option maxHeartbeats 1600000 in
theorem numbers_any (ad : Option Addr) (n c : Nat) (a : List Nat) (hn : a.length = n) (hz : n ≤ 100000) (da : DigL a) (w : World) (hS : Sl .u16 w ad n (gi a)) :
    Calls Tryd.prog 25 #[.slice ad n c] w fun e w' => ∃ bd d, e = .returned (.slice bd n d) ∧ Sl .i64 w' bd n (gi a) ∧ Below w.heap.size w w' := by
  obtain ⟨i0, hi, iz0, iz1, iz2⟩ := info_parts info_int
  have HS := Lib.hid hS
  have HD := Lib.hid (fun i => gi_bd da i)
  clear hS hn da
  go_enter Tryd.func25, Tryd.ntmps25
  go_wp2_with (at_make; refine wpList_make_full _ rfl _ _ 43 rfl w.heap.size 3 i0 (.int .i64 0) 1 Tryd.underlying43 hi iz0 iz1 .i64 .i64 (n : Int) (n : Int) n rfl rfl (by omega) (by omega) (by rw [iz2]; omega) (by unfold maxLen; omega) (Nat.le_refl _) ?_; intro w1 hown1 hgrow1)
  have ro := owns_at0 hown1 (oi (fun _ => 0)) (fun t ht => by
    simp only [Nat.mul_one] at ht ⊢
    exact made_get rfl ht)
  rw [Nat.mul_one] at ro
  have hw1 : Below w.heap.size w w1 := Below.grown (Below.refl _ _) hgrow1 (Nat.le_refl _) (fun k hk => by cases hk)
  clear hown1 hgrow1
  replace ro := Lib.hid ro
  go_wp2_with fail
  go_loopw [11] (fun k wr => ∃ K : Nat, K ≤ n ∧ k = .int .i64 K ∧ Row wr w.heap.size n (oi (fun t => if t < K then gi a t else 0)) ∧ Below w.heap.size w wr) (fun k _ => n - (intOf k).toNat)
  case atStart => exact ⟨0, by omega, rfl, ro.out.congr (fun i _ => by unfold oi; simp), hw1⟩
  case round =>
    obtain ⟨K, hK, rfl, r, hbw⟩ := hrel
    clear ro hw1
    by_cases hK4 : K < n
    · obtain ⟨x, rfl, hl, hcx⟩ := HS.out.beyond hbw K hK4
      obtain ⟨b0, b1⟩ := HD.out K
      have fr := r.free K hK4
      have ck := r.at K hK4
      unfold oi at ck
      have rl := r.lt
      have k0 : (0 : Int) ≤ (K : Int) := by omega
      have k1 : (K : Int) < (n : Int) := by omega
      have ST := Lib.hid (show Row (wr.setCell ⟨w.heap.size, K, none⟩ (.int .i64 (gi a K))) w.heap.size n (oi (fun t => if t < K + 1 then gi a t else 0)) from row_set64 r K hK4 _ (fun t ht => by
        by_cases h : t = K
        · subst h; rw [if_pos rfl, if_pos (by omega)]
        · rw [if_neg h]
          by_cases h2 : t < K
          · rw [if_pos h2, if_pos (by omega)]
          · rw [if_neg h2, if_neg (by omega)]))
      generalize gi a K = v at *
      clear r
      go_wp2_with fail
      go_roundw
      case rel => exact ⟨K + 1, by omega, by go_num, ST.out, hbw.setCell (Nat.le_refl _) _⟩
      case measure => simp [intOf]; omega
    · have hR : Sl .i64 wr (some ⟨w.heap.size, 0, none⟩) n (gi a) := row_sl64 (r.congr (fun i hi => by show Value.int .i64 (if i < K then gi a i else 0) = Value.int .i64 (gi a i); rw [if_pos (by omega)]))
      have HR := Lib.hid hR
      clear hR r
      go_wp2_with fail
      go_ret
      exact ⟨_, _, rfl, HR.out, hbw⟩
end Go.Proofs.YtogmmhacjndebaaDoor
