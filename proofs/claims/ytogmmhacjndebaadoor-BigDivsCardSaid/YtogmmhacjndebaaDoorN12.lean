/- Rows of digits of the call's own, written in place; the contracts of slices.Clone and big.Add. Conditions: as each says. -/
import Derived.Test.YtogmmhacjndebaaDoorN10
import Derived.Test.YtogmmhacjndebaaDoorN11
import Derived.Laws.OwnMore
import Derived.Outline
namespace Go.Proofs.YtogmmhacjndebaaDoor
open Go.RowKit
set_option linter.unusedSimpArgs false
set_option linter.unusedVariables false
attribute [local irreducible] Fl.K
/-- Block g holds the digits l, of the call's own, in a slice of n of them. -/
def OwnA (w : World) (base g cap n : Nat) (l : List Nat) : Prop := l.length = n ∧ w.ownsRow base 31 1 (.slice (some ⟨g, 0, none⟩) n cap) n (l.map fun d : Nat => Value.int .u16 (d : Int))
theorem OwnA.toU {w : World} {base g cap n : Nat} {l : List Nat} (h : OwnA w base g cap n l) : OwnU w base (.slice (some ⟨g, 0, none⟩) n cap) l := by
  obtain ⟨rfl, h⟩ := h
  exact h
theorem OwnA.lt {w : World} {base g cap n : Nat} {l : List Nat} (h : OwnA w base g cap n l) : base ≤ g ∧ g < w.heap.size := World.ownsRow.lt h.2 g rfl
theorem OwnA.at {w : World} {base g cap n : Nat} {l : List Nat} (h : OwnA w base g cap n l) (i : Nat) (hi : i < n) : w.cell? ⟨g, i, none⟩ = some (.int .u16 (gi l i)) := by
  have e := World.ownsRow.cellAt h.2 i (by omega)
  have hl := h.1
  rw [e, List.getElem?_map, List.getElem?_eq_getElem (by omega)]
  show some _ = some _
  congr 2
  rw [List.getD_eq_getElem?_getD, List.getElem?_eq_getElem (by omega)]; rfl
theorem OwnA.free {w : World} {base g cap n : Nat} {l : List Nat} (h : OwnA w base g cap n l) (i : Nat) : w.frozen? ⟨g, i, none⟩ = false := World.ownsRow.frozenAt h.2 i
theorem OwnA.set {w : World} {base g cap n : Nat} {l : List Nat} (h : OwnA w base g cap n l) (K d : Nat) (v : Int) (hv : v = (d : Int)) : OwnA (w.setCell ⟨g, K, none⟩ (.int .u16 v)) base g cap n (l.set K d) := by
  refine ⟨by rw [List.length_set]; exact h.1, ?_⟩
  have s := (World.ownsRow.stored h.2 K (.int .u16 v)).1
  rw [List.map_set, ← hv]
  exact s
theorem OwnA.beyond {w w' : World} {base g cap n : Nat} {l : List Nat} (h : OwnA w base g cap n l) (hb : Below w.heap.size w w') : OwnA w' base g cap n l := ⟨h.1, owns_beyond h.2 hb⟩
theorem OwnA.congr {w : World} {base g cap n : Nat} {l m : List Nat} (h : OwnA w base g cap n l) (e : l = m) : OwnA w base g cap n m := e ▸ h
theorem ret_own {w w' : World} {base : Nat} {v : Value} {l : List Nat} (h : OwnU w' base v l) (hb : Below w.heap.size w w') : RetU l w (.returned v) w' := by
  obtain ⟨ad, c, rfl, hc, hs⟩ := own_sl h
  exact ⟨ad, c, rfl, hc, hs, hb⟩
set_option maxHeartbeats 1600000 in
set_option maxRecDepth 100000 in
theorem clone_any (ad : Option Addr) (n c : Nat) (l : List Nat) (hn : l.length = n) (hz : n ≤ 100000) (w : World) (hS : Sl .u16 w ad n (gi l)) :
    Calls Tryd.prog 15 #[.slice ad n c] w (RetO l w) := by
  obtain ⟨i0, hi, iz0, iz1, iz2⟩ := info_parts info_u16
  have q := fun w => Lib.run_eql_slice_nil (P := Tryd.prog) w 23 31 ad n c 0 0 Tryd.underlying23
  rcases ad with _ | a
  · have hl : l = [] := by
      rcases Nat.eq_zero_or_pos n with h | h
      · exact List.eq_nil_of_length_eq_zero (by omega)
      · obtain ⟨a, ha, _⟩ := hS 0 h
        cases ha
    subst hl
    clear hS hn
    go_enter Tryd.func15, Tryd.ntmps15
    go_wp2_with fail
    go_ret
    exact ⟨_, rfl, OwnU.nil _ _, Below.refl _ _⟩
  · have HC : Hid (∀ i, i < n → a.block < w.heap.size ∧ w.cell? (a.add i) = some (.int .u16 (gi l i))) := Lib.hid (fun i hi => by
      obtain ⟨a', ha, hl, hc⟩ := hS i hi
      cases ha
      exact ⟨hl, hc⟩)
    have HN := Lib.hid hn
    clear hS hn
    go_enter Tryd.func15, Tryd.ntmps15
    go_wp2_with (at_builtin; refine wpList_append_own _ rfl _ _ 23 rfl w.heap.size 31 i0 (.int .u16 0) 1 2 Tryd.underlying23 hi iz0 iz1 iz2 rfl (by decide) _ 0 [] rfl (World.ownsRow_made w #[] 0 (Nat.le_refl _) (Nat.zero_le _) rfl) a n c (l.map fun d : Nat => Value.int .u16 (d : Int)) rfl (by rw [List.length_map, HN.out, Nat.mul_one]) ?c1 ?c2 (by unfold maxLen; omega) (by omega) (by simp) ?_)
    case c1 =>
      intro j u hj
      rw [List.getElem?_map] at hj
      obtain ⟨d, hd, rfl⟩ := Option.map_eq_some_iff.1 hj
      obtain ⟨hlt, he⟩ := List.getElem?_eq_some_iff.1 hd
      obtain ⟨h1, h2⟩ := HC.out j (by have := HN.out; omega)
      rw [World.cell?_alloc_old _ _ _ (by rw [show (a.add j).block = a.block by unfold Addr.add; split <;> rfl]; exact Nat.ne_of_lt h1), h2]
      congr 2
      unfold gi
      rw [List.getD_eq_getElem?_getD, hd]; rfl
    case c2 =>
      intro u hu
      obtain ⟨d, _, rfl⟩ := List.mem_map.1 hu
      rfl
    intro v5 w5 hown5 hgrow5 _
    have hw5 : Below w.heap.size w w5 := Below.grown ((Below.refl _ _).alloc (Nat.le_refl _) _) hgrow5 (by simp) (fun k hk => by simp [Value.ownBlock] at hk; omega)
    have O5 : OwnU w5 w.heap.size v5 l := by
      try rw [Nat.zero_add] at hown5
      try rw [List.nil_append] at hown5
      unfold OwnU
      rw [HN.out]
      exact hown5
    have HO := Lib.hid O5
    clear hown5 hgrow5 O5
    go_wp2_with fail
    go_ret
    exact ⟨v5, rfl, HO.out, hw5⟩
end Go.Proofs.YtogmmhacjndebaaDoor
