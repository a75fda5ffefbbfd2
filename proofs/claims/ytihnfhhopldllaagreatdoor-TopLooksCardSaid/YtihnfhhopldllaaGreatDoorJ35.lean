/- Parts of the proof of TopLooks: U75, U82, U64, U70, U68. No condition. -/
import Derived.Test.YtihnfhhopldllaaGreatDoorJ1
import Derived.Test.YtihnfhhopldllaaGreatDoorJ12
import Derived.Test.YtihnfhhopldllaaGreatDoorJ14
import Derived.Test.YtihnfhhopldllaaGreatDoorJ20
import Derived.Test.YtihnfhhopldllaaGreatDoorJ27
import Derived.Test.YtihnfhhopldllaaGreatDoorJ28
import Derived.Test.YtihnfhhopldllaaGreatDoorJ32
import Derived.Test.YtihnfhhopldllaaGreatDoorJ33
import Derived.Test.YtihnfhhopldllaaGreatDoorJ34
import Derived.Test.YtihnfhhopldllaaGreatDoorJ9
namespace Go.Proofs.YtihnfhhopldllaaGreatDoor
set_option linter.unusedSimpArgs false
set_option linter.unusedVariables false
set_option maxHeartbeats 6400000
set_option maxRecDepth 100000
section
open Go.RowKit
noncomputable def cvC (s : ByteArray) (w : World) : Nat := Classical.choose (conv_bytes s w)
noncomputable def cvW (s : ByteArray) (w : World) : World := Classical.choose (Classical.choose_spec (conv_bytes s w))
theorem cv_all (s : ByteArray) (w : World) : (convert 9 24 (.string s)).run Tryz.prog w = .ok (.slice (some ⟨w.heap.size, 0, none⟩) s.size (cvC s w)) (cvW s w) ∧ Sb (cvW s w) (some ⟨w.heap.size, 0, none⟩) s.data.toList ∧ Below w.heap.size w (cvW s w) ∧ w.heap.size < (cvW s w).heap.size := Classical.choose_spec (Classical.choose_spec (conv_bytes s w))
theorem cv_run (s : ByteArray) (w : World) : (convert 9 24 (.string s)).run Tryz.prog w = .ok (.slice (some ⟨w.heap.size, 0, none⟩) s.size (cvC s w)) (cvW s w) := (cv_all s w).1
theorem cv_below (s : ByteArray) (w : World) : Below w.heap.size w (cvW s w) := (cv_all s w).2.2.1
theorem cv_lt (s : ByteArray) (w : World) : w.heap.size < (cvW s w).heap.size := (cv_all s w).2.2.2
theorem cv_bs (l : List UInt8) (w : World) : Bs (cvW (bs l) w) w.heap.size 0 l := ⟨cv_lt _ w, fun j x hj => by
  obtain ⟨a, h1, _, h3⟩ := (cv_all (bs l) w).2.1 j x hj
  injection h1 with h1
  subst h1
  rw [Addr.add_mid] at h3
  exact h3⟩
theorem Bs.set {w : World} {b o : Nat} {l : List UInt8} (h : Bs w b o l) {a : Addr} (ha : b ≠ a.block) (v : Value) : Bs (w.setCell a v) b o l := ⟨by simp [World.setCell]; exact h.1, fun j x hj => (World.cell?_of_block (a := ⟨b, o + j, none⟩) (heap_setCell_other w a b v ha)).trans (h.2 j x hj)⟩
theorem Bs.drew {w : World} {b o : Nat} {l : List UInt8} (h : Bs w b o l) : Bs w.drew b o l := h
theorem Bs.conv {w : World} {b n c : Nat} {l : List UInt8} (h : Bs w b 0 l) (hn : l.length = n) : (convert 24 9 (.slice (some ⟨b, 0, none⟩) n c)).run Tryz.prog w = .ok (.string (bs l)) w := by
  subst hn
  exact run_convert_bytes_back w _ _ 5 ⟨b, 0, none⟩ c l ty_bytes ty_u8 ty_str (fun j hj => by
    rw [Addr.add_mid]
    exact h.2 j _ (List.getElem?_eq_getElem hj))
def iKids : KL := [([97], vI)]
def canL : List UInt8 := [123, 34, 97, 34, 58, 123, 34, 36, 110, 117, 109, 98, 101, 114, 73, 110, 116, 34, 58, 34, 49, 34, 125, 125]
def relL : List UInt8 := [123, 34, 97, 34, 58, 49, 125]
def jI : Ro := jO [(nInt, jS [49])]
theorem dk_i : Dk 1 (vD iKids) := .inr ⟨_, .inl rfl, by decide, fun x hx => by
  rcases List.mem_singleton.1 hx with rfl
  exact ⟨by decide, .inr rfl⟩⟩
theorem ok_i : okT 1 [] (vD iKids) = true := by decide
theorem jk_can : Jk 2 (jO (iKids.map fun x => (x.1, docJ jI 0 x.2))) := jk_one (by decide) (by decide) (jk_one (by decide) wh_nInt (.inl ⟨[49], by decide, by decide, rfl⟩))
theorem jk_rel : Jk 2 (jO (iKids.map fun x => (x.1, docJ (jN [49]) 0 x.2))) := jk_one (by decide) (by decide) (.inl (.inr rfl))
theorem pr_can : prJ 2 (jO (iKids.map fun x => (x.1, docJ jI 0 x.2))) = canL := by decide
theorem pr_rel : prJ 2 (jO (iKids.map fun x => (x.1, docJ (jN [49]) 0 x.2))) = relL := by decide
theorem ctext_i (Q : Nat → Prop) (w : World) (v : Value) (h : Is .V Q w 1 (vD iKids) v) : Calls Tryz.prog 16 #[v] w fun e w' => e = .returned (.tuple #[.string (bs canL), .agg #[.int .i64 0, .int .i64 0, .slice none 0 0]]) ∧ Below w.heap.size w w' := by
  have h := cText_yes jchk_N jI 0 iKids Q w v dk_i (by decide) h ok_i (cpl_any (by decide) (fun x hx => by
    rcases List.mem_singleton.1 hx with rfl
    exact cval_I 0)) jk_can (by rw [pr_can]; decide)
  rw [pr_can] at h
  exact h
theorem xtext_i (Q : Nat → Prop) (w : World) (v : Value) (h : Is .V Q w 1 (vD iKids) v) : Calls Tryz.prog 17 #[v] w fun e w' => e = .returned (.tuple #[.string (bs relL), .agg #[.int .i64 0, .int .i64 0, .slice none 0 0]]) ∧ Below w.heap.size w w' := by
  have h := xText_yes jchk_N (jN [49]) 0 iKids Q w v dk_i (by decide) h ok_i (xpl_any (by decide) (fun x hx => by
    rcases List.mem_singleton.1 hx with rfl
    exact xval_I 0)) jk_rel (by rw [pr_rel]; decide)
  rw [pr_rel] at h
  exact h
end
section
open Go.RowKit
structure Wr (w : World) (g : Nat) (l : List UInt8) (v : Value) : Prop where
  cell : w.heap[g]? = some (.cells #[v] 210 (0, 0))
  own : w.ownsRow (g + 1) 5 1 v l.length (cel l)
theorem Wr.lt {w : World} {g : Nat} {l : List UInt8} {v : Value} (h : Wr w g l v) : g < w.heap.size := (Array.getElem?_eq_some_iff.1 h.cell).1
theorem Wr.read {w : World} {g : Nat} {l : List UInt8} {v : Value} (h : Wr w g l v) : w.cell? ⟨g, 0, none⟩ = some v ∧ w.frozen? ⟨g, 0, none⟩ = false := by
  refine ⟨?_, frozen_of_row _ g _ _ _ h.cell⟩
  rw [cell_of_row _ g _ _ _ _ h.cell]
  rfl
theorem Wr.keeps {w w' : World} {g : Nat} {l : List UInt8} {v : Value} (h : Wr w g l v) (hk : Keeps (fun b => b = g ∨ v.ownBlock = some b) w w') : Wr w' g l v := ⟨(hk.2 g (.inl rfl) h.lt).trans h.cell, ownsRow_keeps h.own (fun b hb => hk.2 b (.inr hb) (World.ownsRow.lt h.own b hb).2)⟩
theorem Wr.beyond {w w' : World} {g : Nat} {l : List UInt8} {v : Value} (h : Wr w g l v) (hb : Below w.heap.size w w') : Wr w' g l v := h.keeps (Keeps.beyond hb)
theorem Wr.row {w : World} {g : Nat} {l : List UInt8} {v : Value} (h : Wr w g l v) : ∀ b, v.ownBlock = some b → g < b ∧ b < w.heap.size := fun b hb => by
  have := World.ownsRow.lt h.own b hb
  omega
structure WPost (w w' : World) (g : Nat) (l' : List UInt8) (v v' : Value) : Prop where
  wr : Wr w' g l' v'
  below : Below g w w'
  keeps : Keeps (fun b => b ≠ g ∧ v.ownBlock ≠ some b) w w'
  at' : ∀ b, v'.ownBlock = some b → v.ownBlock = some b ∨ w.heap.size ≤ b
theorem WPost.trans {a b c : World} {g : Nat} {l1 l2 : List UInt8} {v1 v2 v3 : Value} (h : WPost a b g l1 v1 v2) (k : WPost b c g l2 v2 v3) : WPost a c g l2 v1 v3 :=
  ⟨k.wr, h.below.trans k.below, ⟨Nat.le_trans h.below.size k.below.size, fun x hx hl => (k.keeps.2 x ⟨hx.1, fun e => by
    rcases h.at' x e with h1 | h1
    · exact hx.2 h1
    · omega⟩ (Nat.lt_of_lt_of_le hl h.below.size)).trans (h.keeps.2 x hx hl)⟩, fun x hx => by
    rcases k.at' x hx with h1 | h1
    · exact h.at' x h1
    · exact .inr (Nat.le_trans h.below.size h1)⟩
theorem WPost.refl {w : World} {g : Nat} {l : List UInt8} {v : Value} (h : Wr w g l v) : WPost w w g l v v := ⟨h, Below.refl _ _, Keeps.refl _ _, fun b hb => .inl hb⟩
theorem WPost.before {a b c : World} {g : Nat} {l l2 : List UInt8} {v v2 : Value} (h : Below a.heap.size a b) (hw : Wr a g l v) (k : WPost b c g l2 v v2) : WPost a c g l2 v v2 :=
  WPost.trans (l1 := l) (v2 := v) ⟨hw.beyond h, h.mono (Nat.le_of_lt hw.lt), Keeps.beyond h, fun x hx => .inl hx⟩ k
theorem WPost.after {a b c : World} {g : Nat} {l2 : List UInt8} {v v2 : Value} (k : WPost a b g l2 v v2) (h : Below b.heap.size b c) : WPost a c g l2 v v2 :=
  WPost.trans k ⟨k.wr.beyond h, h.mono (Nat.le_of_lt k.wr.lt), Keeps.beyond h, fun x hx => .inl hx⟩
theorem wpost_mk {w W1 w7 : World} {g : Nat} {l l' : List UInt8} {v v7 : Value} (h : Wr w g l v) (hb : Below w.heap.size w W1) (hown : w7.ownsRow (g + 1) 5 1 v7 l'.length (cel l')) (hgrow : W1.grownBy w7 v.ownBlock) (hat : ∀ b, v7.ownBlock = some b → v.ownBlock = some b ∨ w.heap.size ≤ b) : WPost w (w7.setCell ⟨g, 0, none⟩ v7) g l' v v7 := by
  have hg := h.lt
  have hrow := h.row
  have hz := hb.size
  have hc : w7.heap[g]? = some (.cells #[v] 210 (0, 0)) := ((hgrow.block g (by omega) (fun e => by have := hrow _ e.symm; omega)).trans (hb.block g hg)).trans h.cell
  refine ⟨⟨heap_setCell_same w7 g 0 _ _ v7 hc, ownsRow_keeps hown (fun b hb => heap_setCell_other w7 ⟨g, 0, none⟩ b v7 (fun e => by have := World.ownsRow.lt hown b hb; dsimp only at e; omega))⟩, ?_, ?_, hat⟩
  · exact (Below.grown (hb.mono (Nat.le_of_lt hg)) hgrow (by omega) (fun k hk => by have := hrow k hk; omega)).setCell (Nat.le_refl _) _
  · refine (Keeps.trans (Keeps.beyond hb) (keeps_grown hgrow (fun b hb _ => hb.2))).trans (Keeps.setCell (fun e => e.1 rfl) _)
theorem cel_snoc (l : List UInt8) (x : UInt8) : cel (l ++ [x]) = cel l ++ [.int .u8 (x.toNat : Int)] := by simp [cel]
theorem lay_w (w : World) : Calls Tryz.prog 90 #[] w fun e w' => (∃ g, e = .returned (.pointer (some ⟨g, 0, none⟩)) ∧ g = w.heap.size ∧ Wr w' g [] (.slice none 0 0)) ∧ Below w.heap.size w w' := by
  go_enter Tryz.func90, Tryz.ntmps90
  go_wp2_with fail
  go_ret
  exact ⟨⟨_, rfl, rfl, heap_alloc_last _ _, World.ownsRow_nil _ _ _ _⟩, bel⟩
theorem byte_w (g : Nat) (l : List UInt8) (v : Value) (x : UInt8) (w : World) (h : Wr w g l v) (hl : l.length ≤ 1000000) : Calls Tryz.prog 150 #[.pointer (some ⟨g, 0, none⟩), .int .i64 (x.toNat : Int)] w fun e w' => e = .returned (.tuple #[]) ∧ ∃ v', WPost w w' g (l ++ [x]) v v' := by
  obtain ⟨h0, hf⟩ := h.read
  have HW := Lib.hid h
  have hg := h.lt
  have hrow := h.row
  obtain ⟨i0, hi, iz0, iz1, iz2⟩ := hi_u8
  obtain ⟨X, hX⟩ : ∃ X : Int, (x.toNat : Int) = X := ⟨_, rfl⟩
  have hx0 : 0 ≤ X := by omega
  have hx1 : X < 256 := by have := x.toNat_lt; omega
  have HX := Lib.hid hX
  rw [hX]
  clear h hX
  have hgne : g ≠ w.heap.size := by omega
  have hglt : g < w.heap.size + 1 := by omega
  go_enter Tryz.func150, Tryz.ntmps150
  go_wp2_with (at_builtin; go_loud (refine wpList_append_lies _ rfl _ _ 24 rfl (g + 1) 5 i0 _ 1 1 Tryz.underlying24 hi iz0 iz1 iz2 rfl (by decide) v l.length (cel l) rfl (World.ownsRow.alloc HW.out.own _) ⟨w.heap.size, 0, none⟩ 1 1 [.int .u8 X] rfl rfl (World.news_of_block (cs := #[.int .u8 X]) (heap_alloc_last w _)) one_u8x (by decide) (by unfold maxLen; omega) (by omega) (by simp; omega) _ rfl ?_; intro g7 cap7 w7 hown7 hgrow7 hat7 hlt7; have k0 : w7.cell? ⟨g, 0, none⟩ = some v := (row_cell hgrow7 (b := g) (i := 0) (by simp; omega) (fun e => by have := hrow _ e; omega)).trans (by simp [go_sem, *]); have kf := rF hgrow7 g 0 (fun e => by have := hrow _ e; omega)))
  refine bodyPost_end (v := .tuple #[]) (by simp [results, Tryz.results150]) rfl ?_
  refine ⟨rfl, _, wpost_mk HW.out ((Below.refl _ _).alloc (Nat.le_refl _) _) (l' := l ++ [x]) ?_ hgrow7 (fun b hb => ?_)⟩
  · rw [cel_snoc, List.length_append, HX.out]
    exact hown7
  · have e : g7 = b := Option.some.inj hb
    subst e
    rcases hat7 with h | h
    · exact .inl h
    · exact .inr (by simp at h; omega)
theorem raw_w (g b n c : Nat) (l m : List UInt8) (hm : m.length = n) (hn0 : 0 < n) (hn : n ≤ 1000000) (v : Value) (w : World) (h : Wr w g l v) (hl : l.length ≤ 1000000) (hB : Bs w b 0 m) : Calls Tryz.prog 157 #[.pointer (some ⟨g, 0, none⟩), .slice (some ⟨b, 0, none⟩) n c] w fun e w' => e = .returned (.tuple #[]) ∧ ∃ v', WPost w w' g (l ++ m) v v' := by
  obtain ⟨h0, hf⟩ := h.read
  have HW := Lib.hid h
  have HB := Lib.hid hB
  have HM := Lib.hid hm
  have hg := h.lt
  have hrow := h.row
  obtain ⟨i0, hi, iz0, iz1, iz2⟩ := hi_u8
  clear h hB hm
  go_enter Tryz.func157, Tryz.ntmps157
  go_wp2_with (at_builtin; go_loud (refine wpList_append_lies _ rfl _ _ 24 rfl (g + 1) 5 i0 _ 1 1 Tryz.underlying24 hi iz0 iz1 iz2 rfl (by decide) v l.length (cel l) rfl HW.out.own ⟨b, 0, none⟩ n c (cel m) rfl (by rw [cel_len, HM.out, Nat.mul_one]) (fun j u hj => by rw [Addr.add_mid]; exact HB.out.news j u hj) (cel_one m) hn0 (by unfold maxLen; omega) (by omega) (by omega) _ rfl ?_; intro g7 cap7 w7 hown7 hgrow7 hat7 hlt7; have k0 : w7.cell? ⟨g, 0, none⟩ = some v := (row_cell hgrow7 (b := g) (i := 0) (by omega) (fun e => by have := hrow _ e; omega)).trans h0; have kf : w7.frozen? ⟨g, 0, none⟩ = false := (row_frozen hgrow7 (b := g) (i := 0) (by omega) (fun e => by have := hrow _ e; omega)).trans hf))
  refine bodyPost_end (v := .tuple #[]) (by simp [results, Tryz.results157]) rfl ?_
  refine ⟨rfl, _, wpost_mk HW.out (Below.refl _ _) (l' := l ++ m) ?_ hgrow7 (fun b hb => ?_)⟩
  · rw [show cel (l ++ m) = cel l ++ cel m by simp [cel], List.length_append, HM.out]
    exact hown7
  · have e : g7 = b := Option.some.inj hb
    subst e
    rcases hat7 with h | h
    · exact .inl h
    · exact .inr (by omega)
theorem number_0 (w : World) : Calls Tryz.prog 211 #[.int .i64 0] w fun e w' => e = .returned (.bool false) ∧ w = w' := by
  go_enter Tryz.func211, Tryz.ntmps211
  go_wp2_with fail
  go_ret
  exact ⟨rfl, rfl⟩
theorem high_0 (p : Value) (n : Int) (w : World) : Calls Tryz.prog 158 #[p, .int .u64 n, .int .i64 0] w fun e w' => e = .returned (.tuple #[]) ∧ w = w' := by
  have HN := Lib.hid number_0
  go_enter Tryz.func158, Tryz.ntmps158
  go_wp2_with fail
  refine wp_loop_rounds 2 ?_
  rw [rounds_succ]
  go_wp2_with fail
  with_reducible refine (HN.out _).mono ?_
  rintro e w' ⟨rfl, rfl⟩
  go_wp2_with fail
  refine bodyPost_end (v := .tuple #[]) (by simp [results, Tryz.results158]) rfl ?_
  exact ⟨rfl, rfl⟩
theorem bytes_w (g : Nat) (l : List UInt8) (h1 : 0 < l.length) (hl : l.length ≤ 1000000) (v : Value) (w : World) (h : Wr w g l v) : Calls Tryz.prog 92 #[.pointer (some ⟨g, 0, none⟩)] w fun e w' => (∃ b c, e = .returned (.slice (some ⟨b, 0, none⟩) l.length c) ∧ Bs w' b 0 l ∧ w.heap.size ≤ b) ∧ Below w.heap.size w w' := by
  obtain ⟨h0, hf⟩ := h.read
  obtain ⟨g2, c2, rfl, hB⟩ : ∃ g2 c2, v = .slice (some ⟨g2, 0, none⟩) l.length c2 ∧ Bs w g2 0 l := by
    have ho := h.own
    rcases ho.2 with ⟨_, h2⟩ | ⟨g2, cap, cur, hv, _⟩
    · omega
    · subst hv
      exact ⟨g2, cap, rfl, (Bs.own ho).1⟩
  have HC := Lib.hid (clone_b g2 0 l.length c2 (cel l) w (cel_len l) (by omega) hB.news (cel_one l))
  have hL1 := Lib.hid h1
  clear h hB
  go_enter Tryz.func92, Tryz.ntmps92
  go_wp2_with fail
  with_reducible refine HC.out.mono ?_
  rintro e w1 ⟨v', rfl, hown, hnn, hb1⟩
  rcases hown.2 with ⟨rfl, _⟩ | ⟨g3, cap, cur, rfl, hg2, hgx, _⟩
  · exact absurd rfl hnn
  · have hB2 := Lib.hid (Bs.own hown).1
    clear hown hgx hnn
    go_wp2_with fail
    go_ret
    exact ⟨⟨g3, cap, rfl, hB2.out, hg2⟩, hb1⟩
def itL : List Value := [.int .i64 4, .int .u64 0, .slice none 0 0, .string { data := #[97] }, .slice none 0 0, .int .i64 1, .int .u64 1, .slice none 0 0, .string { data := #[] }, .slice none 0 0]
def ItM (w : World) (g : Nat) : Prop := g < w.heap.size ∧ ∀ (j : Nat) (v : Value), itL[j]? = some v → w.cell? ⟨g, j, none⟩ = some v
theorem ItM.beyond {w w' : World} {g : Nat} (h : ItM w g) (hb : Below w.heap.size w w') : ItM w' g := ⟨Nat.lt_of_lt_of_le h.1 hb.size, fun j v hj => (hb.cell (p := ⟨g, j, none⟩) h.1).trans (h.2 j v hj)⟩
theorem ItM.keeps {w w' : World} {g : Nat} {Q : Nat → Prop} (h : ItM w g) (hk : Keeps Q w w') (hq : Q g) : ItM w' g := ⟨Nat.lt_of_lt_of_le h.1 hk.1, fun j v hj => (World.cell?_of_block (a := ⟨g, j, none⟩) (hk.2 g hq h.1)).trans (h.2 j v hj)⟩
theorem itL_one : ∀ u ∈ itL, u.oneCell' = true := fun u hu => by
  simp only [itL, List.mem_cons, List.not_mem_nil, or_false] at hu
  rcases hu with rfl | rfl | rfl | rfl | rfl | rfl | rfl | rfl | rfl | rfl
  all_goals rfl
theorem itM_own {w : World} {B g n cap : Nat} (h : w.ownsRow B 96 5 (.slice (some ⟨g, 0, none⟩) n cap) n itL) : ItM w g := by
  have h2 := h.2
  rcases h2 with ⟨h, _⟩ | ⟨g', cap', cur, hv, hb, hg, _⟩
  · cases h
  · injection hv with e1 e2 e3
    injection e1 with e1
    injection e1 with e1
    subst e1
    refine ⟨(Array.getElem?_eq_some_iff.1 hg).1, fun j v hj => ?_⟩
    have := World.ownsRow.cells h (g := g) rfl j v hj
    rw [Addr.add_mid, Nat.zero_add] at this
    exact this
theorem hi_item : ∃ i0, Tryz.prog.info? 96 = some i0 ∧ i0.zero = some (.agg #[.int .i64 0, .int .u64 0, .slice none 0 0, .string { data := #[] }, .slice none 0 0]) ∧ i0.size = 5 ∧ i0.bytes = 80 := by
  have h : (Tryz.prog.info? 96).map (fun i => (i.zero, i.size, i.bytes)) = some (some (.agg #[.int .i64 0, .int .u64 0, .slice none 0 0, .string { data := #[] }, .slice none 0 0]), 5, 80) := by kernel_rfl
  obtain ⟨i0, h0, h1⟩ := Option.map_eq_some_iff.1 h
  injection h1 with h1 h2
  injection h2 with h2 h3
  exact ⟨i0, h0, h1, h2, h3⟩
end
section
open Go.RowKit
theorem Kd.none {Q : Nat → Prop} {w : World} {k k' : Nat} {s : Value} (h : Kd .V Q w k [] s) : Kd .V Q w k' [] s := by
  obtain ⟨ad, c, rfl⟩ := h.slice
  exact Kd.nil _ _ _ _ _ _
theorem sa_any : ∀ (k : Nat) (t : Ro), Dk k t → SaV k t := by
  have leaf : ∀ (k : Nat) (t : Ro), Leaf t → SaV k t := by
    intro k t hd Q Q2 w v v2 h h2
    obtain ⟨bv, s, rfl, ⟨bd, bc, rfl, _⟩, hk⟩ := h
    obtain ⟨bv2, s2, rfl, ⟨bd2, bc2, rfl, _⟩, hk2⟩ := h2
    obtain ⟨ad, c, rfl⟩ := hk.slice
    obtain ⟨ad2, c2, rfl⟩ := hk2.slice
    rcases hd with ⟨x, hx, rfl⟩ | rfl
    · exact same_lv 0 [] (by simp) 2 0 0 0 0 (bs x) (bs []) bd bd2 ad ad2 bc bc2 0 c c2 rfl Q Q2 w hk.none hk2.none (fun x hx => by cases hx)
    · exact same_lv 0 [] (by simp) 16 1 0 0 0 (bs []) (bs []) bd bd2 ad ad2 bc bc2 0 c c2 rfl Q Q2 w hk.none hk2.none (fun x hx => by cases hx)
  intro k
  induction k with
  | zero => exact fun t hd => leaf 0 t hd
  | succ k ih =>
    intro t hd
    rcases hd with hd | ⟨l, ht, hl, hd⟩
    · exact leaf (k + 1) t hd
    · intro Q Q2 w v v2 h h2
      obtain ⟨bv, s, rfl, hby, hk⟩ := h
      obtain ⟨bv2, s2, rfl, hby2, hk2⟩ := h2
      rcases ht with rfl | rfl
      · obtain ⟨bd, bc, rfl, _⟩ := hby
        obtain ⟨bd2, bc2, rfl, _⟩ := hby2
        obtain ⟨ad, c, rfl⟩ := hk.slice
        obtain ⟨ad2, c2, rfl⟩ := hk2.slice
        exact same_lv k l hl 3 0 0 0 0 (bs []) (bs []) bd bd2 ad ad2 bc bc2 l.length c c2 rfl Q Q2 w hk hk2 (fun x hx => ih x.2 (hd x hx).2)
      · obtain ⟨bd, bc, rfl, _⟩ := hby
        obtain ⟨bd2, bc2, rfl, _⟩ := hby2
        obtain ⟨ad, c, rfl⟩ := hk.slice
        obtain ⟨ad2, c2, rfl⟩ := hk2.slice
        exact same_lv k l hl 4 0 0 0 0 (bs []) (bs []) bd bd2 ad ad2 bc bc2 l.length c c2 rfl Q Q2 w hk hk2 (fun x hx => ih x.2 (hd x hx).2)
theorem tu_any : ∀ (k : Nat) (t : Ro), Dk k t → TuV k t := by
  have leaf : ∀ (k : Nat) (t : Ro), Leaf t → TuV k t := by
    intro k t hd Q w v h
    obtain ⟨bv, s, rfl, ⟨bd, bc, rfl, _⟩, hk⟩ := h
    obtain ⟨ad, c, rfl⟩ := hk.slice
    rcases hd with ⟨x, hx, rfl⟩ | rfl
    · refine (turn_lv 0 [] (by simp) 2 0 0 0 0 (bs x) (bs []) rfl rfl bd bd bc ad 0 c rfl Q w hk.none (fun x hx => by cases hx)).mono ?_
      rintro e w' ⟨⟨qa, qc, s, rfl, hs⟩, hb⟩
      exact ⟨⟨_, rfl, .slice qa 0 qc, s, rfl, ⟨qa, qc, rfl, .inl rfl⟩, hs.none⟩, hb⟩
    · refine (turn_lv 0 [] (by simp) 16 1 0 0 0 (bs []) (bs []) rfl rfl bd bd bc ad 0 c rfl Q w hk.none (fun x hx => by cases hx)).mono ?_
      rintro e w' ⟨⟨qa, qc, s, rfl, hs⟩, hb⟩
      exact ⟨⟨_, rfl, .slice qa 0 qc, s, rfl, ⟨qa, qc, rfl, .inl rfl⟩, hs.none⟩, hb⟩
  intro k
  induction k with
  | zero => exact fun t hd => leaf 0 t hd
  | succ k ih =>
    intro t hd
    rcases hd with hd | ⟨l, ht, hl, hd⟩
    · exact leaf (k + 1) t hd
    · intro Q w v h
      obtain ⟨bv, s, rfl, hby, hk⟩ := h
      rcases ht with rfl | rfl
      · obtain ⟨bd, bc, rfl, _⟩ := hby
        obtain ⟨ad, c, rfl⟩ := hk.slice
        refine (turn_lv k l hl 3 0 0 0 0 (bs []) (bs []) rfl rfl bd bd bc ad l.length c rfl Q w hk (fun x hx => ih x.2 (hd x hx).2)).mono ?_
        rintro e w' ⟨⟨qa, qc, s, rfl, hs⟩, hb⟩
        exact ⟨⟨_, rfl, .slice qa 0 qc, s, rfl, ⟨qa, qc, rfl, .inl rfl⟩, hs⟩, hb⟩
      · obtain ⟨bd, bc, rfl, _⟩ := hby
        obtain ⟨ad, c, rfl⟩ := hk.slice
        refine (turn_lv k l hl 4 0 0 0 0 (bs []) (bs []) rfl rfl bd bd bc ad l.length c rfl Q w hk (fun x hx => ih x.2 (hd x hx).2)).mono ?_
        rintro e w' ⟨⟨qa, qc, s, rfl, hs⟩, hb⟩
        exact ⟨⟨_, rfl, .slice qa 0 qc, s, rfl, ⟨qa, qc, rfl, .inl rfl⟩, hs⟩, hb⟩
end
section
open Go.RowKit
def limV : Value := .agg #[.int .i64 200, .int .i64 65536, .int .i64 262144]
theorem vD_kids {l l' : KL} (h : vD l = vD l') : l = l' := by injection h
theorem dk_vD {k : Nat} {l : KL} (h : Dk (k + 1) (vD l)) : l.length ≤ 20 ∧ ∀ x ∈ l, x.1.length ≤ 200 ∧ Dk k x.2 := by
  rcases h with (⟨y, hy, e⟩ | e) | ⟨l', ht, hl, hd⟩
  · injection e with e; injection e with e; exact absurd e (by decide)
  · injection e with e; injection e with e; exact absurd e (by decide)
  · rcases ht with e | e
    · have := vD_kids e; subst this; exact ⟨hl, hd⟩
    · injection e with e; injection e with e; exact absurd e (by decide)
theorem sk_vD {k : Nat} {l : KL} (h : Sk (k + 1) (vD l)) : ∀ x ∈ l, Sk k x.2 := by
  rcases h with ⟨x, e⟩ | ⟨l', ht, hs⟩
  · injection e with e; injection e with e; exact absurd e (by decide)
  · rcases ht with e | e
    · have := vD_kids e; subst this; exact hs
    · injection e with e; injection e with e; exact absurd e (by decide)
def kidJ (i : Ro) (k : Nat) (l : KL) : KL := l.map fun x => (x.1, docJ i k x.2)
theorem jq_kid {k : Nat} {l : KL} (hd : Dk (k + 1) (vD l)) (ho : okT (k + 1) [] (vD l) = true) : Jq (2 * k + 2) (jO (kidJ (jS []) k l)) := by
  obtain ⟨hl, hx⟩ := dk_vD hd
  refine jq_obj (by simpa [kidJ] using hl) fun x hx' => ?_
  obtain ⟨y, hy, rfl⟩ := List.mem_map.1 hx'
  have := okT_at (k := k) ho hy
  exact ⟨(hx y hy).1, (okT_nm this).1, jq_docJ (jq_str (by simp) wh_nil) (hx y hy).2 this⟩
theorem etext_str {k : Nat} {l : KL} (hk : k ≤ 190) (hd : Dk (k + 1) (vD l)) (hs : Sk (k + 1) (vD l)) (ho : okT (k + 1) [] (vD l) = true) (hsz : szR (k + 1) (vD l) ≤ 65536) (hlen : (prJ (2 * k + 2) (jO (kidJ (jS []) k l))).length ≤ 1000000) (w : World) :
    Calls Tryz.prog 19 #[.string (bs (prJ (2 * k + 2) (jO (kidJ (jS []) k l)))), limV] w fun e w' => (∃ v, e = .returned (.tuple #[v, .agg #[.int .i64 0, .int .i64 0, .slice none 0 0]]) ∧ Is .V (fun b => w.heap.size ≤ b) w' (k + 1) (vD l) v) ∧ Below w.heap.size w w' := by
  have hj := jq_kid hd ho
  obtain ⟨hl, hx⟩ := dk_vD hd
  have hsk := sk_vD hs
  have hE : EPl (2 * k + 1) k (kidJ (jS []) k l) l := epl_of (ekids_of (fun x hx' => (okT_nm (okT_at (k := k) ho hx')).2) (fun x hx' => eval_any (jS []) k x.1 x.2 (2 * k + 1) (hx x hx').2 (hsk x hx') (okT_at (k := k) ho hx') (Nat.le_refl _))) hl
  have hC : JChk (2 * k + 2) (jO (kidJ (jS []) k l)) := jchk_any jchk_N _ _ hj.jk
  have hdp := dpR_le (k + 1) (vD l)
  refine (etext_3 k (2 * k + 1) l.length (kidJ (jS []) k l) l _ rfl (fun w => ?_) (fun Q ad c w h => ?_) (fun Q w v h => ?_) w).mono ?_
  · refine (parse_any (bs (prJ (2 * k + 2) (jO (kidJ (jS []) k l)))) (by rw [bs_size]; exact hlen) (2 * k + 2) _ hj rfl 404 (by omega) (by omega) w).mono ?_
    rintro e w' ⟨⟨v, rfl, hv⟩, hb⟩
    obtain ⟨ad, c, rfl⟩ := isJ_form hv
    have e0 : (jO (kidJ (jS []) k l)).kids.length = l.length := by show (kidJ (jS []) k l).length = _; simp [kidJ]
    have hk2 := isJ_kids hv
    rw [e0] at hk2
    refine ⟨⟨ad, c, ?_, hk2⟩, hb⟩
    rw [e0]
    rfl
  · exact eread_any (2 * k + 1) k (kidJ (jS []) k l) l hE hC Q ad l.length c (by simp [kidJ]) rfl (by omega) w h
  · exact fits_any (k + 1) l 200 65536 262144 (by decide) (by decide) (by decide) (by decide) (by decide) (by decide) (by omega) (by omega) (by omega) (by omega) hd Q w v h
  · rintro e w' ⟨⟨s, rfl, h⟩, hb⟩
    exact ⟨⟨_, rfl, .slice none 0 0, s, rfl, By.nil _ _, h⟩, hb⟩
theorem ctext_str {k : Nat} {l : KL} (hk : k ≤ 190) (hd : Dk (k + 1) (vD l)) (hs : Sk (k + 1) (vD l)) (ho : okT (k + 1) [] (vD l) = true) (hlen : (prJ (2 * k + 2) (jO (kidJ (jS []) k l))).length ≤ 1000000) (Q : Nat → Prop) (w : World) (v : Value) (h : Is .V Q w (k + 1) (vD l) v) :
    Calls Tryz.prog 16 #[v] w fun e w' => e = .returned (.tuple #[.string (bs (prJ (2 * k + 2) (jO (kidJ (jS []) k l)))), .agg #[.int .i64 0, .int .i64 0, .slice none 0 0]]) ∧ Below w.heap.size w w' :=
  cText_yes jchk_N (jS []) k l Q w v hd (by omega) h ho (cpl_any (dk_vD hd).1 (fun x hx => cval_str (jS []) k x.2 ((dk_vD hd).2 x hx).2 (sk_vD hs x hx))) (jq_kid hd ho).jk (Nat.le_trans hlen (by decide))
theorem kidJ_str {k : Nat} {l : KL} (hs : ∀ x ∈ l, Sk k x.2) (i i' : Ro) : kidJ i k l = kidJ i' k l := List.map_congr_left fun x hx => by rw [docJ_str i i' (hs x hx)]
theorem xtext_str {k : Nat} {l : KL} (hk : k ≤ 190) (hd : Dk (k + 1) (vD l)) (hs : Sk (k + 1) (vD l)) (ho : okT (k + 1) [] (vD l) = true) (hlen : (prJ (2 * k + 2) (jO (kidJ (jS []) k l))).length ≤ 1000000) (Q : Nat → Prop) (w : World) (v : Value) (h : Is .V Q w (k + 1) (vD l) v) :
    Calls Tryz.prog 17 #[v] w fun e w' => e = .returned (.tuple #[.string (bs (prJ (2 * k + 2) (jO (kidJ (jS []) k l)))), .agg #[.int .i64 0, .int .i64 0, .slice none 0 0]]) ∧ Below w.heap.size w w' := by
  have hj := jq_kid hd ho
  rw [kidJ_str (sk_vD hs) (jS []) (jN [49])] at hj hlen ⊢
  exact xText_yes jchk_N (jN [49]) k l Q w v hd (by omega) h ho (xpl_any (dk_vD hd).1 (fun x hx => xval_any (jN [49]) xval_I k x.1 x.2 ((dk_vD hd).2 x hx).2 (okT_at (k := k) ho hx))) hj.jk (Nat.le_trans hlen (by decide))
end
section
open Go.RowKit
theorem rc_any : ∀ (k : Nat) (t : Ro) (nm : List UInt8) (B : Nat), Dk k t → Sk k t → nm.length ≤ 200 → RcV B k nm t := by
  have leaf : ∀ (k : Nat) (x nm : List UInt8) (B : Nat), x.length ≤ 200 → nm.length ≤ 200 → RcV B k nm (vS x) := by
    intro k x nm B hx hnm Q n w v p h hp hB hn
    obtain ⟨bv, s, rfl, ⟨bd, bc, rfl, _⟩, hk⟩ := h
    obtain ⟨ad, c, rfl⟩ := hk.slice
    have e : okT k nm (vS x) = (decide (Wh x) && decide (Nm nm) && ([] : KL).all fun x => okT 0 x.1 x.2) := by
      rw [okT_vS, Bool.and_comm, List.all_nil, Bool.and_true]
    rw [e]
    exact rck_lv 0 [] (by simp) 2 0 0 0 0 (bs x) (bs []) 0 bd ad bc 0 c rfl Q w hk.none B p n (by omega) (.inl rfl) hp hB nm hnm (decide (Wh x)) (fun w => own_2 (bs x) (by rw [bs_size]; omega) bd bc ad 0 c w) (fun x hx => by cases hx)
  intro k
  induction k with
  | zero =>
    intro t nm B hd hs hnm
    obtain ⟨x, rfl⟩ := hs
    rcases hd with ⟨y, hy, e⟩ | e
    · injection e with e; injection e with _ _ _ _ _ e; subst e
      exact leaf 0 x nm B hy hnm
    · injection e with e; injection e with e; exact absurd e (by decide)
  | succ k ih =>
    intro t nm B hd hs hnm
    rcases hd with (⟨y, hy, rfl⟩ | rfl) | ⟨l, ht, hl, hd⟩
    · exact leaf (k + 1) y nm B hy hnm
    · exfalso
      rcases hs with ⟨x, e⟩ | ⟨l, e | e, _⟩ <;> (injection e with e; injection e with e; exact absurd e (by decide))
    · have hs2 : ∀ x ∈ l, Sk k x.2 := by
        rcases hs with ⟨x, e⟩ | ⟨l', ht', hs⟩
        · rcases ht with rfl | rfl <;> (injection e with e; injection e with e; exact absurd e (by decide))
        · have e : l' = l := by
            rcases ht with rfl | rfl <;> rcases ht' with e | e <;> injection e with _ e <;> exact e.symm
          subst e
          exact hs
      intro Q n w v p h hp hB hn
      obtain ⟨bv, s, rfl, hby, hk⟩ := h
      have ho := okT_v k nm l ht
      have e0 : decide (Wh (bs []).data.toList) = true := by decide
      have e : (decide (Nm nm) && l.all fun x => okT k x.1 x.2) = (decide (Wh (bs []).data.toList) && decide (Nm nm) && l.all fun x => okT k x.1 x.2) := by rw [e0, Bool.true_and]
      rw [ho, e]
      have hx : ∀ x ∈ l, RcV B k x.1 x.2 := fun x hx => ih x.2 x.1 B (hd x hx).2 (hs2 x hx) (hd x hx).1
      rcases ht with rfl | rfl
      · obtain ⟨bd, bc, rfl, _⟩ := hby
        obtain ⟨ad, c, rfl⟩ := hk.slice
        exact rck_lv k l hl 3 0 0 0 0 (bs []) (bs []) 0 bd ad bc l.length c rfl Q w hk B p n (by omega) (.inr (by omega)) hp hB nm hnm _ (fun w => own_3 (bs []) (by decide) bd bc ad l.length c w) hx
      · obtain ⟨bd, bc, rfl, _⟩ := hby
        obtain ⟨ad, c, rfl⟩ := hk.slice
        exact rck_lv k l hl 4 0 0 0 0 (bs []) (bs []) 0 bd ad bc l.length c rfl Q w hk B p n (by omega) (.inr (by omega)) hp hB nm hnm _ (fun w => own_4 (bs []) (by decide) bd bc ad l.length c w) hx
theorem rCheck_any (k : Nat) (t : Ro) (Q : Nat → Prop) (w : World) (v : Value) (hd : Dk k t) (hs : Sk k t) (hk : k ≤ 800) (h : Is .V Q w k t v) :
    Calls Tryz.prog 18 #[v] w fun e w' => (∃ qa qn qc, e = .returned (.tuple #[.slice qa qn qc, .int .i64 (if okT k [] t = true then 0 else 4)])) ∧ Below w.heap.size w w' := by
  have H : Hid (∀ w', Below w.heap.size w w' → Calls Tryz.prog 37 #[v, .string { data := #[] }, .slice none 0 0] w' fun e w'' => (∃ qa qn qc, e = .returned (.tuple #[.slice qa qn qc, .int .i64 (if okT k [] t = true then 0 else 4)])) ∧ Below w'.heap.size w' w'') := Lib.hid (fun w' hb => rc_any k t [] 0 hd hs (by simp) Q 0 w' v (.slice none 0 0) (h.beyond hb) (Pa.nil _ _ _) (Nat.zero_le _) (by omega))
  obtain ⟨bd, bc, ad, c, rfl⟩ := h.form
  obtain ⟨E, hE⟩ : ∃ z : Int, (if okT k [] t = true then (0 : Int) else 4) = z := ⟨_, rfl⟩
  rw [hE] at H ⊢
  clear h hd hs hE
  generalize t.o.kind = O1 at *
  generalize t.o.bits = O2 at *
  generalize t.o.high = O3 at *
  generalize t.o.low = O4 at *
  generalize bs t.o.text = O5 at *
  generalize bs t.o.more = O6 at *
  generalize t.o.sub = O7 at *
  generalize t.o.bytes.length = O8 at *
  generalize t.kids.length = O9 at *
  go_enter Tryz.func18, Tryz.ntmps18
  go_wp2_with fail
  with_reducible refine (H.out _ bel).mono ?_
  rintro e w1 ⟨⟨qa, qn, qc, rfl⟩, hb1⟩
  have hw1 := bwB hb1 w.heap.size w
  clear hb1
  go_wp2_with fail
  go_ret2
  exact ⟨⟨_, _, _, rfl⟩, hw1⟩
end
end Go.Proofs.YtihnfhhopldllaaGreatDoor
