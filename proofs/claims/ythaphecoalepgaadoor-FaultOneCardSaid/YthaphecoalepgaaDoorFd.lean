/- What fault.Parse makes in memory: an own row of places, a fault's cells; the contracts of strings.Cut, strings.Split and strconv.Atoi in this seat's words. Conditions: as each says. -/
import Derived.Test.YthaphecoalepgaaDoorFc
import Derived.Outline
namespace Go.Proofs.YthaphecoalepgaaDoor
open Go.RowKit
set_option linter.unusedSimpArgs false
set_option linter.unusedVariables false

theorem info_int : (Tryd.prog.info? 3).map (fun i => (i.zero, i.size, i.bytes)) = some (some (.int .i64 0), 1, 8) := by kernel_rfl
theorem one_int {d : Int} : ∀ u ∈ [Value.int .i64 d], u.oneCell' = true := fun u hu => by
  rcases List.mem_singleton.1 hu with rfl
  rfl
/-- The value v is a row of numbers p of the call's own, from block base on. -/
def OwnI (w : World) (base : Nat) (v : Value) (p : List Int) : Prop := w.ownsRow base 3 1 v p.length (p.map fun d : Int => Value.int .i64 d)
theorem OwnI.nil (w : World) (base : Nat) : OwnI w base (.slice none 0 0) [] := World.ownsRow_nil _ _ _ _
theorem OwnI.lt {w : World} {base : Nat} {v : Value} {p : List Int} (h : OwnI w base v p) : ∀ k, v.ownBlock = some k → base ≤ k := fun k hk => (World.ownsRow.lt h k hk).1
theorem OwnI.lt2 {w : World} {base : Nat} {v : Value} {p : List Int} (h : OwnI w base v p) : ∀ k, v.ownBlock = some k → k < w.heap.size := fun k hk => (World.ownsRow.lt h k hk).2
theorem OwnI.app {w : World} {base : Nat} {v : Value} {p : List Int} {d : Int} (h : w.ownsRow base 3 1 v (p.length + 1) ((p.map fun d : Int => Value.int .i64 d) ++ [.int .i64 d])) : OwnI w base v (p ++ [d]) := by
  unfold OwnI
  rw [List.length_append, List.length_singleton, List.map_append, List.map_singleton]
  exact h
theorem OwnI.mono {w : World} {base base' : Nat} {v : Value} {p : List Int} (h : OwnI w base v p) (hb : base' ≤ base) : OwnI w base' v p :=
  ⟨h.1, by
    rcases h.2 with h1 | ⟨g, cap, cur, h1, hb2, r⟩
    · exact Or.inl h1
    · exact Or.inr ⟨g, cap, cur, h1, Nat.le_trans hb hb2, r⟩⟩
theorem OwnI.beyond {w w' : World} {base : Nat} {v : Value} {p : List Int} (h : OwnI w base v p) (hb : Below w.heap.size w w') : OwnI w' base v p :=
  ⟨h.1, by
    rcases h.2 with h1 | ⟨g, cap, cur, h1, hb2, hg, r⟩
    · exact Or.inl h1
    · refine Or.inr ⟨g, cap, cur, h1, hb2, ?_, r⟩
      rw [← hg]
      exact hb.block g (Array.getElem?_eq_some_iff.1 hg).1⟩
theorem OwnI.set {w : World} {base g i : Nat} {v u : Value} {p : List Int} (h : OwnI w base v p) (hg : g < base) : OwnI (w.setCell ⟨g, i, none⟩ u) base v p := ownsRow_setCell_below h hg u
theorem OwnI.sl {w : World} {base : Nat} {v : Value} {p : List Int} (h : OwnI w base v p) : ∃ ad c, v = .slice ad p.length c ∧ Sl .i64 w ad p.length (gp p) := by
  have h' := h
  rcases h.2 with ⟨rfl, h0⟩ | ⟨g, cap, cur, rfl, hb, hgg, hnc, _, _, htake⟩
  · have e : p = [] := by simpa using h0
    subst e
    exact ⟨none, 0, rfl, Sl.none _ _ _ _⟩
  · refine ⟨_, cap, rfl, fun i hi => ⟨_, rfl, (Array.getElem?_eq_some_iff.1 hgg).1, ?_⟩⟩
    refine World.ownsRow.cells h' rfl i _ ?_
    rw [List.getElem?_map, List.getElem?_eq_getElem hi]
    unfold gp
    rw [List.getD_eq_getElem?_getD, List.getElem?_eq_getElem hi]; rfl
/-- The cells of a fault at block g. -/
def FC (w : World) (g : Nat) (e a : Int) (v : Value) : Prop := w.cell? ⟨g, 0, none⟩ = some (.int .i64 e) ∧ w.cell? ⟨g, 1, none⟩ = some (.int .i64 a) ∧ w.cell? ⟨g, 2, none⟩ = some v ∧ (∀ i, w.frozen? ⟨g, i, none⟩ = false) ∧ g < w.heap.size
theorem FC.below {w w' : World} {B g : Nat} {e a : Int} {v : Value} (h : FC w g e a v) (hb : Below B w w') (hg : g < B) : FC w' g e a v :=
  ⟨(hb.cell (p := ⟨g, 0, none⟩) hg).trans h.1, (hb.cell (p := ⟨g, 1, none⟩) hg).trans h.2.1, (hb.cell (p := ⟨g, 2, none⟩) hg).trans h.2.2.1, fun i => (hb.frozen (p := ⟨g, i, none⟩) hg).trans (h.2.2.2.1 i), Nat.lt_of_lt_of_le h.2.2.2.2 hb.size⟩
theorem FC.beyond {w w' : World} {g : Nat} {e a : Int} {v : Value} (h : FC w g e a v) (hb : Below w.heap.size w w') : FC w' g e a v := h.below hb h.2.2.2.2
/-- A row of strings at block g. -/
def StrRow (w : World) (g : Nat) (ps : List (List UInt8)) : Prop := g < w.heap.size ∧ ∀ j x, ps[j]? = some x → w.cell? ⟨g, j, none⟩ = some (.string ⟨x.toArray⟩)
theorem StrRow.below {w w' : World} {B g : Nat} {ps : List (List UInt8)} (h : StrRow w g ps) (hb : Below B w w') (hg : g < B) : StrRow w' g ps :=
  ⟨Nat.lt_of_lt_of_le h.1 hb.size, fun j x hj => (hb.cell (p := ⟨g, j, none⟩) hg).trans (h.2 j x hj)⟩
theorem StrRow.beyond {w w' : World} {g : Nat} {ps : List (List UInt8)} (h : StrRow w g ps) (hb : Below w.heap.size w w') : StrRow w' g ps := h.below hb h.1
theorem StrRow.set {w : World} {g g' i : Nat} {u : Value} {ps : List (List UInt8)} (h : StrRow w g ps) (hne : g' ≠ g) : StrRow (w.setCell ⟨g', i, none⟩ u) g ps :=
  ⟨by rw [World.size_setCell]; exact h.1, fun j x hj => by
    rw [World.cell?_setCell_other _ _ _ _ (fun e => hne (by injection e))]
    exact h.2 j x hj⟩
/-- Some integer stands at a library's variable. -/
def MaxAt (w : World) : Prop := ∃ m, w.cell? ⟨0, 0, none⟩ = some (.int .i64 m)
theorem cell_in {w : World} {a : Addr} {v : Value} (h : w.cell? a = some v) : a.block < w.heap.size := by
  rcases Nat.lt_or_ge a.block w.heap.size with h' | h'
  · exact h'
  · simp [World.cell?, Array.getElem?_eq_none h'] at h
theorem maxAt_below {w w' : World} (h : MaxAt w) (hb : Below w.heap.size w w') : MaxAt w' := by
  obtain ⟨m, hm⟩ := h
  exact ⟨m, (hb.cell (cell_in hm)).trans hm⟩
def ErrAt (w : World) (g : Nat) : Prop := ∃ ev, w.cell? ⟨g, 0, none⟩ = some ev ∧ (ev = .nilIface ∨ ∃ te pe, ev = .iface te pe)
theorem errAt_below {w w' : World} {g : Nat} (h : ErrAt w g) (hb : Below w.heap.size w w') : ErrAt w' g := by
  obtain ⟨ev, h1, h2⟩ := h
  exact ⟨ev, (hb.cell (p := ⟨g, 0, none⟩) (cell_in h1)).trans h1, h2⟩
def Laid5 (w : World) : Prop := PowTab w ∧ ErrAt w 1 ∧ ErrAt w 2 ∧ MaxAt w
theorem laid5_below {w w' : World} (h : Laid5 w) (hb : Below w.heap.size w w') : Laid5 w' := ⟨tabIs_below h.1 hb, errAt_below h.2.1 hb, errAt_below h.2.2.1 hb, maxAt_below h.2.2.2 hb⟩
theorem cut_any (s : ByteArray) (hs : s.size ≤ 100000) (w : World) (hL : Laid5 w) :
    Calls Tryd.prog 19 #[.string s, .string { data := #[64] }] w fun e w' => e = .returned (.tuple #[.string ⟨(Lib.cut s.data.toList [64]).1.toArray⟩, .string ⟨(Lib.cut s.data.toList [64]).2.1.toArray⟩, .bool (Lib.cut s.data.toList [64]).2.2]) ∧ Below w.heap.size w w' := by
  obtain ⟨m, hm⟩ := hL.2.2.2
  refine (Tryd.strings_Cut s { data := #[64] } m w (by omega) hm).mono ?_
  rintro e w' ⟨rfl, n, rfl⟩
  exact ⟨rfl, below_drewN (Below.refl _ _) n⟩
theorem split_any (s : ByteArray) (hs : s.size ≤ 100000) (w : World) (hL : Laid5 w) :
    Calls Tryd.prog 20 #[.string s, .string { data := #[47] }] w fun e w' => e = .returned (.slice (some ⟨w.heap.size, 0, none⟩) (pieces 47 s.data.toList).length (pieces 47 s.data.toList).length) ∧ StrRow w' w.heap.size (pieces 47 s.data.toList) ∧ Below w.heap.size w w' := by
  obtain ⟨m, hm⟩ := hL.2.2.2
  refine (Tryd.strings_Split s { data := #[47] } m w (by omega) hm (by decide)).mono ?_
  rintro e w' ⟨rfl, rfl⟩
  have h1 := count_bytes 47 s
  have h2 := split_bytes 47 s
  refine ⟨by rw [h1], ⟨by simp, fun j x hj => ?_⟩, (Below.refl _ _).alloc (Nat.le_refl _) _⟩
  rw [World.cell?_alloc_at _ _ _ _ rfl, h2, List.map_map, List.getElem?_toArray, List.getElem?_map, hj]
  rfl
theorem below_bytes {w : World} (t : TypeId) (x : ByteArray) : Below w.heap.size w (Lib.bytesWorld w t x) := Lib.bytesWorld_below _ _ _
theorem atoi_ok (s : ByteArray) (hs : s.size ≤ 100000) (v : Int) (h : Lib.atoiAll s.data.toList = .ok v) (w : World) :
    Calls Tryd.prog 21 #[.string s] w fun e w' => e = .returned (.tuple #[.int .i64 v, .nilIface]) ∧ Below w.heap.size w w' := by
  refine (Tryd.strconv_Atoi_ok s (by omega) v h w).mono ?_
  rintro e w' ⟨rfl, rfl | ⟨t, rfl⟩⟩
  · exact ⟨rfl, Below.refl _ _⟩
  · exact ⟨rfl, below_bytes _ _⟩
theorem atoi_no (s : ByteArray) (hs : s.size ≤ 100000) (h : ∀ v, Lib.atoiAll s.data.toList ≠ .ok v) (w : World) (hL : Laid5 w) :
    Calls Tryd.prog 21 #[.string s] w fun e w' => (∃ (v : Int) (N : Nat), e = .returned (.tuple #[.int .i64 v, .iface 62 (.pointer (some ⟨N, 0, none⟩))])) ∧ Below w.heap.size w w' := by
  obtain ⟨e1, h1, h2⟩ := hL.2.1
  obtain ⟨e2, h3, h4⟩ := hL.2.2.1
  cases hc : Lib.atoiAll s.data.toList with
  | ok v => exact absurd hc (h v)
  | «syntax» =>
    refine (Tryd.strconv_Atoi_syntax s (by omega) hc e1 w h1 h2).mono ?_
    rintro e w' ⟨N, rfl, _, _, hb⟩
    exact ⟨⟨_, N, rfl⟩, hb⟩
  | range =>
    refine (Tryd.strconv_Atoi_range s (by omega) hc e2 w h3 h4).mono ?_
    rintro e w' ⟨N, rfl, _, _, hb⟩
    exact ⟨⟨_, N, rfl⟩, hb⟩
end Go.Proofs.YthaphecoalepgaaDoor
