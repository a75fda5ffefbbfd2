/- Arguments in and out, for a row that writes old memory nowhere: slices of integers, arrays of 8 integers; whatever reads, reads again. No program. -/
import Derived.ChangeSame
import Derived.OpenShut
import Derived.Carry
import Derived.Test.YtogmmhacjndebaaDoorPost
import Derived.Test.YtogmmhacjndebaaDoorSl
namespace Go.Proofs.YtogmmhacjndebaaDoor
open Go.ChangeShapes Go.WideShapes Go.RowKit
set_option linter.unusedSimpArgs false
set_option linter.unusedVariables false
theorem back_all {H : Type} {enc : TypeId × Value → H} {P : Program} (hl : laidOutB P = true) {W W' : World} (hb : Below W.heap.size W W') {sp : Nat → Bool} : ∀ {ts : List TypeId} {vs : List Value} {ds : List (DataW H)} {ps : List MemPlace},
    (∀ t ∈ ts, P.readableRec t = true ∧ t < P.types.size) → DataW.TrodAll enc P W 0 (fun _ => true) true ts vs ds ps → (∀ x ∈ ps, x.block < W.heap.size) → (∀ x ∈ ps, sp x.block = true) → DataW.TrodAll enc P W' 0 sp true ts vs ds ps
  | [], [], [], _, _, h, _, _ => h
  | t :: _, _ :: _, _ :: _, _, hT, ⟨p, q, h1, h2, e⟩, hlt, hs => by
    subst e
    exact ⟨p, q, WideElems.Trod_stays hl (hT t (List.mem_cons_self ..)).1 (hT t (List.mem_cons_self ..)).2 h1 (fun x hx => hb.same (hlt x (List.mem_append_left _ hx))) (fun x hx => hs x (List.mem_append_left _ hx)),
      back_all hl hb (fun t' ht' => hT t' (List.mem_cons_of_mem _ ht')) h2 (fun x hx => hlt x (List.mem_append_right _ hx)) (fun x hx => hs x (List.mem_append_right _ hx)), rfl⟩
theorem cell_lt {w : World} {a : Addr} {v : Value} (h : w.cell? a = some v) : a.block < w.heap.size := by
  by_cases hlt : a.block < w.heap.size
  · exact hlt
  · exfalso
    have e : w.heap[a.block]? = none := Array.getElem?_eq_none (by omega)
    simp [World.cell?, e] at h
theorem add_block (a : Addr) (i : Nat) : (a.add i).block = a.block := by unfold Addr.add; split <;> rfl
theorem ints_open {H : Type} {enc : TypeId × Value → H} {P : Program} {w : World} {r : Reach} {b0 b : Nat} {hd : Bool} {t e : TypeId} {k : IntKind} {v : Value} {d : DataW H} {p : List MemPlace} (ht : P.underlying t = some (.slice e)) (he : P.underlying e = some (.int k)) (hc : P.cellsOf e = 1)
    (hv : Value.okWide P w r b0 t v) (h : DataW.Trod enc P w b (fun _ => true) hd t v d p) :
    ∃ (ad : Option Addr) (n c : Nat) (f : Nat → Int), v = .slice ad n c ∧ n ≤ c ∧ c ≤ maxLen ∧ Sl k w ad n f ∧ ∀ i, i < n → (Lit.int k (f i)).wf = true := by
  obtain ⟨a0, len, cap, rfl⟩ := okWide_slice ht hv
  obtain ⟨m, hm⟩ := h
  rcases open_ints ht he hc hm with ⟨hcs, _⟩ | ⟨a, len', cap', zs, hcs, _, hle, hmax, hzs, _, hcell, hwf⟩
  · simp [Value.cells] at hcs
    obtain ⟨rfl, rfl, rfl⟩ := hcs
    exact ⟨none, 0, 0, fun _ => 0, rfl, Nat.le_refl _, Nat.zero_le _, Sl.none _ _ _ _, fun i hi => by omega⟩
  · simp [Value.cells] at hcs
    obtain ⟨rfl, rfl, rfl⟩ := hcs
    simp at hzs
    refine ⟨some a, len, cap, fun i => zs.getD i 0, rfl, hle, hmax, fun i hi => ⟨a, rfl, ?_, hcell i (by omega)⟩, fun i hi => hwf _ ?_⟩
    · have := cell_lt (hcell i (by omega))
      rw [add_block] at this
      exact this
    · have e1 : zs.getD i 0 = zs[i]'(by omega) := by simp [List.getD, show i < zs.length by omega]
      show zs.getD i 0 ∈ zs
      rw [e1]
      exact List.getElem_mem _
def numAt (cs : Array Value) (i : Nat) : Int := match cs[i]? with | some (.int _ n) => n | _ => 0
def c8 (k : IntKind) (f : Nat → Int) : Value := .agg #[.int k (f 0), .int k (f 1), .int k (f 2), .int k (f 3), .int k (f 4), .int k (f 5), .int k (f 6), .int k (f 7)]
theorem arr8_open {H : Type} {enc : TypeId × Value → H} {P : Program} {w : World} {r : Reach} {b0 b : Nat} {sp : Nat → Bool} {hd : Bool} {t e : TypeId} {k : IntKind} {v : Value} {d : DataW H} {p : List MemPlace} (ht : P.underlying t = some (.array 8 e)) (he : P.underlying e = some (.int k)) (hc : P.cellsOf e = 1) (hC : P.cellsOf t = 8)
    (hv : Value.okWide P w r b0 t v) (h : DataW.Trod enc P w b sp hd t v d p) :
    ∃ f : Nat → Int, v = c8 k f ∧ ∀ i, i < 8 → (Lit.int k (f i)).wf = true := by
  obtain ⟨cs, rfl, hsz⟩ : ∃ cs, v = .agg cs ∧ cs.size = 8 := by
    cases v <;> simp [Value.okWide, ht] at hv
    exact ⟨_, rfl, by rw [← hC]; exact hv.1⟩
  obtain ⟨fuel, hf⟩ := h
  obtain ⟨xs, m, _, _, _, hl, hel⟩ := DataW.trod_array ht hf
  have key : ∀ i, i < 8 → cs[i]? = some (.int k (numAt cs i)) ∧ (Lit.int k (numAt cs i)).wf = true := fun i hi => by
    have h1 := hel i hi
    have h2 : cs[i]? = some (cs[i]'(by omega)) := Array.getElem?_eq_getElem (by omega)
    have h3 : xs[i]? = some (xs[i]'(by omega)) := List.getElem?_eq_getElem (by omega)
    have h4 : (((Value.agg cs).cells.toList.drop (i * P.cellsOf e)).take (P.cellsOf e)) = [cs[i]'(by omega)] := by
      rw [hc, Nat.mul_one]
      simp only [Value.cells]
      rw [List.take_one, List.head?_drop, Array.getElem?_toList, h2]
      rfl
    rw [h3, h4] at h1
    obtain ⟨x, e1, _, e3⟩ := DataW.trod_int he h1
    simp at e1
    have e4 : numAt cs i = x := by unfold numAt; rw [h2, e1]
    rw [e4]
    exact ⟨by rw [h2, e1], e3⟩
  refine ⟨numAt cs, ?_, fun i hi => (key i hi).2⟩
  unfold c8
  congr 1
  apply Array.ext_getElem?
  intro i
  by_cases hi : i < 8
  · rw [(key i hi).1]
    match i, hi with
    | 0, _ => rfl
    | 1, _ => rfl
    | 2, _ => rfl
    | 3, _ => rfl
    | 4, _ => rfl
    | 5, _ => rfl
    | 6, _ => rfl
    | 7, _ => rfl
  · rw [Array.getElem?_eq_none (by omega), Array.getElem?_eq_none (by simp; omega)]
end Go.Proofs.YtogmmhacjndebaaDoor
