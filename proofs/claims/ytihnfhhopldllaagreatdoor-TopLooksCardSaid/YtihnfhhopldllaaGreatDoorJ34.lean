/- Parts of the proof of TopLooks: U71. No condition. -/
import Derived.Test.YtihnfhhopldllaaGreatDoorJ1
import Derived.Test.YtihnfhhopldllaaGreatDoorJ12
import Derived.Test.YtihnfhhopldllaaGreatDoorJ17
import Derived.Test.YtihnfhhopldllaaGreatDoorJ32
namespace Go.Proofs.YtihnfhhopldllaaGreatDoor
set_option linter.unusedSimpArgs false
set_option linter.unusedVariables false
set_option maxHeartbeats 6400000
set_option maxRecDepth 100000
section
open Go.RowKit
def Bs (w : World) (b o : Nat) (l : List UInt8) : Prop := b < w.heap.size ∧ ∀ (j : Nat) (x : UInt8), l[j]? = some x → w.cell? ⟨b, o + j, none⟩ = some (.int .u8 (x.toNat : Int))
theorem Bs.below {w w' : World} {b o B : Nat} {l : List UInt8} (h : Bs w b o l) (hb : Below B w w') (hB : b < B) : Bs w' b o l := ⟨Nat.lt_of_lt_of_le h.1 hb.size, fun j x hj => (hb.cell (p := ⟨b, o + j, none⟩) hB).trans (h.2 j x hj)⟩
theorem Bs.beyond {w w' : World} {b o : Nat} {l : List UInt8} (h : Bs w b o l) (hb : Below w.heap.size w w') : Bs w' b o l := h.below hb h.1
theorem Bs.drop {w : World} {b o : Nat} {l : List UInt8} (h : Bs w b o l) (n : Nat) : Bs w b (o + n) (l.drop n) := ⟨h.1, fun j x hj => by rw [Nat.add_assoc]; exact h.2 (n + j) x (by rw [List.getElem?_drop] at hj; exact hj)⟩
theorem Bs.take {w : World} {b o : Nat} {l : List UInt8} (h : Bs w b o l) (n : Nat) : Bs w b o (l.take n) := ⟨h.1, fun j x hj => h.2 j x (by
  rw [List.getElem?_take] at hj
  split at hj
  · exact hj
  · cases hj)⟩
theorem Bs.news {w : World} {b o : Nat} {l : List UInt8} (h : Bs w b o l) : ∀ j u, (cel l)[j]? = some u → w.cell? ⟨b, o + j, none⟩ = some u := fun j u hj => by
  unfold cel at hj
  rw [List.getElem?_map] at hj
  obtain ⟨x, hx, rfl⟩ := Option.map_eq_some_iff.1 hj
  exact h.2 j x hx
theorem cel_one (l : List UInt8) : ∀ u ∈ cel l, u.oneCell' = true := fun u hu => by
  unfold cel at hu
  obtain ⟨x, _, rfl⟩ := List.mem_map.1 hu
  rfl
theorem cel_len (l : List UInt8) : (cel l).length = l.length := by simp [cel]
theorem Bs.own {w : World} {B g n cap : Nat} {l : List UInt8} (h : w.ownsRow B 5 1 (.slice (some ⟨g, 0, none⟩) n cap) n (cel l)) : Bs w g 0 l ∧ B ≤ g := by
  have h2 := h.2
  rcases h2 with ⟨h, _⟩ | ⟨g', cap', cur, hv, hb, hg, _⟩
  · cases h
  · injection hv with e1 e2 e3
    injection e1 with e1
    injection e1 with e1
    subst e1
    refine ⟨⟨(Array.getElem?_eq_some_iff.1 hg).1, fun j x hj => ?_⟩, hb⟩
    have := World.ownsRow.cells h (g := g) rfl j (.int .u8 (x.toNat : Int)) (by unfold cel; rw [List.getElem?_map, hj]; rfl)
    rw [Addr.add_mid] at this
    exact this
theorem u8_back (x : UInt8) : (x.toNat : Int).toNat.toUInt8 = x := by simp
theorem run_loadBytes {P : Program} (w : World) (b : Nat) : ∀ (l : List UInt8) (o : Nat) (acc : ByteArray), (∀ (j : Nat) (x : UInt8), l[j]? = some x → w.cell? ⟨b, o + j, none⟩ = some (.int .u8 (x.toNat : Int))) → (Extern.Bytes.loadBytes ⟨b, o, none⟩ l.length acc).run P w = .ok ⟨acc.data ++ l.toArray⟩ w
  | [], o, acc, _ => by
    show Result.ok acc w = _
    simp
  | x :: l, o, acc, h => by
    have h0 := h 0 x rfl
    rw [Nat.add_zero] at h0
    have ih := run_loadBytes (P := P) w b l (o + 1) (acc.push x) (fun j y hj => by rw [Nat.add_assoc, Nat.add_comm 1 j]; exact h (j + 1) y hj)
    show Sem.run P (do
      match ← load ⟨b, o, none⟩ with
      | .int .u8 z => Extern.Bytes.loadBytes (Addr.add ⟨b, o, none⟩ 1) l.length (acc.push z.toNat.toUInt8)
      | _ => stuck "loadBytes: a byte expected") w = _
    rw [Sem.run_bind]
    simp only [run_load, h0]
    show Sem.run P (Extern.Bytes.loadBytes (Addr.add ⟨b, o, none⟩ 1) l.length (acc.push (x.toNat : Int).toNat.toUInt8)) w = _
    rw [u8_back, show Addr.add ⟨b, o, none⟩ 1 = ⟨b, o + 1, none⟩ from rfl, ih]
    congr 1
    simp [ByteArray.push, ByteArray.data]
theorem indexByte_any (b o n c : Nat) (l : List UInt8) (x : UInt8) (hl : l.length = n) (w : World) (h : Bs w b o l) : Calls Tryz.prog 123 #[.slice (some ⟨b, o, none⟩) n c, .int .u8 (x.toNat : Int)] w fun e w' => e = .returned (.int .i64 (firstIdx ⟨l.toArray⟩ x)) ∧ w = w' := by
  subst hl
  have hr : ∀ (y : Int), y = (x.toNat : Int) → (callFunc 205 #[.slice (some ⟨b, o, none⟩) l.length c, .int .u8 y]).run Tryz.prog w = .ok (.value (.int .i64 (firstIdx ⟨l.toArray⟩ x))) w := fun y hy => by
    subst hy
    rw [run_callFunc_extern Tryz.func205 (by kernel_rfl) (by kernel_rfl) (by kernel_rfl) (e := Extern.BytealgIndexByte.indexByte) (by kernel_rfl)]
    have h1 := run_loadBytes (P := Tryz.prog) w b l o .empty h.2
    have h2 : (Extern.BytealgIndexByte.indexByte #[.slice (some ⟨b, o, none⟩) l.length c, .int .u8 (x.toNat : Int)]).run Tryz.prog w = .ok (.int .i64 (firstIdx ⟨l.toArray⟩ x)) w := by
      change Sem.run _ (do
        let b ← Extern.Bytes.bytesOf (.slice (some ⟨b, o, none⟩) l.length c)
        let c' ← Extern.Bytes.asByte (.int .u8 (x.toNat : Int))
        match (List.range b.size).find? fun i => b[i]! == c' with
        | some i => pure (goInt i)
        | none => pure (goInt (-1))) w = _
      have e : (⟨ByteArray.empty.data ++ l.toArray⟩ : ByteArray) = ⟨l.toArray⟩ := by
        have : ByteArray.empty.data = #[] := rfl
        rw [this]
        simp
      rw [e] at h1
      simp only [Extern.Bytes.bytesOf, Extern.Bytes.asByte, firstIdx, Sem.run_bind, h1, Result.andThen, Sem.run_pure, u8_back]
      generalize (List.range (ByteArray.mk l.toArray).size).find? (fun i => (ByteArray.mk l.toArray)[i]! == x) = F
      cases F <;> rfl
    rw [h2]
    rfl
  have hr := Lib.hid (hr _ rfl)
  obtain ⟨X, hX⟩ : ∃ X : Int, (x.toNat : Int) = X := ⟨_, rfl⟩
  obtain ⟨R, hR⟩ : ∃ R : Int, firstIdx ⟨l.toArray⟩ x = R := ⟨_, rfl⟩
  rw [hX, hR] at hr
  rw [hX, hR]
  have hrr := hr.out
  clear hX hR h
  go_enter Tryz.func123, Tryz.ntmps123
  go_wp2_with fail
  go_ret
  exact ⟨rfl, rfl⟩
theorem new_any (b o n c : Nat) (l : List UInt8) (hl : l.length = n) (hn : n ≤ 1000000) (w : World) (h : Bs w b o l) : Calls Tryz.prog 78 #[.slice (some ⟨b, o, none⟩) n c] w fun e w' => (∃ g g2 c2, e = .returned (.pointer (some ⟨g, 0, none⟩)) ∧ n ≤ c2 ∧ g2 < g ∧ w.heap.size ≤ g2 ∧ w'.heap[g]? = some (.cells #[.slice (some ⟨g2, 0, none⟩) n c2, .int .i64 0] 192 (0, 0)) ∧ Bs w' g2 0 l) ∧ Below w.heap.size w w' := by
  have HC := Lib.hid (fun w (h : Bs w b o l) => clone_b b o n c (cel l) w (by rw [cel_len, hl]) (by omega) h.news (cel_one l))
  have HB := Lib.hid h
  have hL := Lib.hid hl
  clear h hl
  go_enter Tryz.func78, Tryz.ntmps78
  go_wp2_with fail
  with_reducible refine (HC.out _ HB.out).mono ?_
  rintro e w1 ⟨v', rfl, hown, hnn, hb1⟩
  rcases hown.2 with ⟨rfl, _⟩ | ⟨g2, cap, cur, rfl, hg2, hgx, hnc, _⟩
  · exact absurd rfl hnn
  · have hB2 := (Bs.own hown).1
    have hlt := (Array.getElem?_eq_some_iff.1 hgx).1
    replace hown := Lib.hid hown
    clear hgx hnn
    go_wp2_with fail
    go_ret
    refine ⟨⟨w1.heap.size, g2, cap, rfl, by omega, hlt, hg2, heap_alloc_last _ _, hB2.beyond ((Below.refl _ _).alloc (Nat.le_refl _) _)⟩, bel⟩
def Rdr (w : World) (g g2 n c k : Nat) : Prop := w.heap[g]? = some (.cells #[.slice (some ⟨g2, 0, none⟩) n c, .int .i64 (k : Nat)] 192 (0, 0))
theorem Rdr.lt {w : World} {g g2 n c k : Nat} (h : Rdr w g g2 n c k) : g < w.heap.size := (Array.getElem?_eq_some_iff.1 h).1
theorem Rdr.cells {w : World} {g g2 n c k : Nat} (h : Rdr w g g2 n c k) : w.cell? ⟨g, 0, none⟩ = some (.slice (some ⟨g2, 0, none⟩) n c) ∧ w.cell? ⟨g, 1, none⟩ = some (.int .i64 (k : Nat)) ∧ w.frozen? ⟨g, 1, none⟩ = false := by
  refine ⟨?_, ?_, frozen_of_row _ g _ _ _ h⟩
  all_goals (rw [cell_of_row _ g _ _ _ _ h]; rfl)
theorem Rdr.beyond {w w' : World} {g g2 n c k : Nat} (h : Rdr w g g2 n c k) (hb : Below w.heap.size w w') : Rdr w' g g2 n c k := (hb.block g h.lt).trans h
theorem Rdr.set {w : World} {g g2 n c k : Nat} (h : Rdr w g g2 n c k) (q : Nat) : Rdr (w.setCell ⟨g, 1, none⟩ (.int .i64 q)) g g2 n c q := heap_setCell_same w g 1 _ _ (.int .i64 q) h
theorem Rdr.drew {w : World} {g g2 n c k : Nat} (h : Rdr w g g2 n c k) : Rdr w.drew g g2 n c k := h
theorem Rdr.other {w : World} {g g2 n c k : Nat} (h : Rdr w g g2 n c k) {a : Addr} (ha : g ≠ a.block) (v : Value) : Rdr (w.setCell a v) g g2 n c k := (heap_setCell_other w a g v ha).trans h
theorem Rdr.alloc {w : World} {g g2 n c k : Nat} (h : Rdr w g g2 n c k) (o : Obj) : Rdr (w.alloc o) g g2 n c k := h.beyond ((Below.refl _ _).alloc (Nat.le_refl _) o)
theorem left_any (g g2 n c k : Nat) (hk : k ≤ n) (hn : n ≤ 1000000) (w : World) (h : Rdr w g g2 n c k) : Calls Tryz.prog 80 #[.pointer (some ⟨g, 0, none⟩)] w fun e w' => e = .returned (.int .i64 ((n - k : Nat) : Int)) ∧ Below w.heap.size w w' := by
  obtain ⟨h0, h1, hf⟩ := h.cells
  obtain ⟨m, hm⟩ : ∃ m, n - k = m := ⟨_, rfl⟩
  rw [hm]
  obtain ⟨N, hN⟩ : ∃ N : Int, (n : Int) = N := ⟨_, rfl⟩
  go_enter Tryz.func80, Tryz.ntmps80
  go_wp2_with fail
  go_region
  go_wp2_with fail
  go_ret
  exact ⟨by first | go_num | (rw [IntKind.wrap_i64]; go_num), bel⟩
theorem next_4 (g g2 c : Nat) (hc : 4 ≤ c) (w : World) (h : Rdr w g g2 4 c 0) :
    Calls Tryz.prog 204 #[.pointer (some ⟨g, 0, none⟩), .int .i64 4] w fun e w' => (∃ c2, e = .returned (.tuple #[.slice (some ⟨g2, 0, none⟩) 4 c2, .bool true])) ∧ Rdr w' g g2 4 c 4 ∧ w.grownBy w' (some g) := by
  have HL : Hid (∀ w, Rdr w g g2 4 c 0 → Calls Tryz.prog 80 #[.pointer (some ⟨g, 0, none⟩)] w fun e w' => e = .returned (.int .i64 4) ∧ Below w.heap.size w w') := Lib.hid (fun w h => left_any g g2 4 c 0 (by decide) (by decide) w h)
  have HR := Lib.hid h
  have hg := h.lt
  clear h
  go_enter Tryz.func204, Tryz.ntmps204
  go_wp2_with fail
  with_reducible refine (HL.out _ HR.out).mono ?_
  rintro e w1 ⟨rfl, hb1⟩
  have HR1 := Lib.hid (HR.out.beyond hb1)
  obtain ⟨h0, h1, hf⟩ := HR1.out.cells
  have HB1 := Lib.hid hb1
  clear HL HR hb1
  go_upto_region 4 with fail
  go_region
  all_goals
    go_wp2_with fail
    go_ret2
    refine ⟨⟨_, rfl⟩, ?_, ?_⟩
    · repeat' (first | with_reducible refine Rdr.drew ?_ | exact HR1.out.set 4)
    · repeat' (first | with_reducible exact grown_below HB1.out _ | with_reducible refine grown_drew ?_ | with_reducible refine grown_set ?_ (by dsimp only; omega) _)
theorem low4_12 (g g2 c : Nat) (hc : 4 ≤ c) (w : World) (h : Rdr w g g2 4 c 0) (hB : Bs w g2 0 [12, 0, 0, 0]) (hne : g2 ≠ g) :
    Calls Tryz.prog 122 #[.pointer (some ⟨g, 0, none⟩), .int .i64 4] w fun e w' => e = .returned (.tuple #[.int .u64 12, .bool true]) ∧ w.grownBy w' (some g) := by
  have HN := Lib.hid (fun w h => next_4 g g2 c hc w h)
  have HR := Lib.hid h
  have b0 : ∀ w', w.grownBy w' (some g) → w'.cell? ⟨g2, 0, none⟩ = some (.int .u8 12) := fun w' hw => (grown_cell hw (i := 0) hB.1 hne).trans (hB.2 0 _ rfl)
  have b1 : ∀ w', w.grownBy w' (some g) → w'.cell? ⟨g2, 1, none⟩ = some (.int .u8 0) := fun w' hw => (grown_cell hw (i := 1) hB.1 hne).trans (hB.2 1 _ rfl)
  have b2 : ∀ w', w.grownBy w' (some g) → w'.cell? ⟨g2, 2, none⟩ = some (.int .u8 0) := fun w' hw => (grown_cell hw (i := 2) hB.1 hne).trans (hB.2 2 _ rfl)
  have b3 : ∀ w', w.grownBy w' (some g) → w'.cell? ⟨g2, 3, none⟩ = some (.int .u8 0) := fun w' hw => (grown_cell hw (i := 3) hB.1 hne).trans (hB.2 3 _ rfl)
  replace b0 := Lib.hid b0
  replace b1 := Lib.hid b1
  replace b2 := Lib.hid b2
  replace b3 := Lib.hid b3
  clear h hB
  go_enter Tryz.func122, Tryz.ntmps122
  go_wp2_with fail
  with_reducible refine (HN.out _ HR.out).mono ?_
  rintro e w1 ⟨⟨c2, rfl⟩, hR1, hg1⟩
  have d0 := b0.out w1 hg1
  have d1 := b1.out w1 hg1
  have d2 := b2.out w1 hg1
  have d3 := b3.out w1 hg1
  have HG := Lib.hid hg1
  clear hR1 hg1 HN HR b0 b1 b2 b3
  go_wp2_with fail
  refine wp_loop_rounds 6 ?_
  rw [rounds_succ]
  go_wp2_with fail
  rw [rounds_succ]
  go_wp2_with fail
  rw [rounds_succ]
  go_wp2_with fail
  rw [rounds_succ]
  go_wp2_with fail
  rw [rounds_succ]
  go_wp2_with fail
  go_ret2
  exact ⟨rfl, HG.out⟩
theorem low4_1 (g g2 c : Nat) (hc : 4 ≤ c) (w : World) (h : Rdr w g g2 4 c 0) (hB : Bs w g2 0 [1, 0, 0, 0]) (hne : g2 ≠ g) :
    Calls Tryz.prog 122 #[.pointer (some ⟨g, 0, none⟩), .int .i64 4] w fun e w' => e = .returned (.tuple #[.int .u64 1, .bool true]) ∧ w.grownBy w' (some g) := by
  have HN := Lib.hid (fun w h => next_4 g g2 c hc w h)
  have HR := Lib.hid h
  have b0 : ∀ w', w.grownBy w' (some g) → w'.cell? ⟨g2, 0, none⟩ = some (.int .u8 1) := fun w' hw => (grown_cell hw (i := 0) hB.1 hne).trans (hB.2 0 _ rfl)
  have b1 : ∀ w', w.grownBy w' (some g) → w'.cell? ⟨g2, 1, none⟩ = some (.int .u8 0) := fun w' hw => (grown_cell hw (i := 1) hB.1 hne).trans (hB.2 1 _ rfl)
  have b2 : ∀ w', w.grownBy w' (some g) → w'.cell? ⟨g2, 2, none⟩ = some (.int .u8 0) := fun w' hw => (grown_cell hw (i := 2) hB.1 hne).trans (hB.2 2 _ rfl)
  have b3 : ∀ w', w.grownBy w' (some g) → w'.cell? ⟨g2, 3, none⟩ = some (.int .u8 0) := fun w' hw => (grown_cell hw (i := 3) hB.1 hne).trans (hB.2 3 _ rfl)
  replace b0 := Lib.hid b0
  replace b1 := Lib.hid b1
  replace b2 := Lib.hid b2
  replace b3 := Lib.hid b3
  clear h hB
  go_enter Tryz.func122, Tryz.ntmps122
  go_wp2_with fail
  with_reducible refine (HN.out _ HR.out).mono ?_
  rintro e w1 ⟨⟨c2, rfl⟩, hR1, hg1⟩
  have d0 := b0.out w1 hg1
  have d1 := b1.out w1 hg1
  have d2 := b2.out w1 hg1
  have d3 := b3.out w1 hg1
  have HG := Lib.hid hg1
  clear hR1 hg1 HN HR b0 b1 b2 b3
  go_wp2_with fail
  refine wp_loop_rounds 6 ?_
  rw [rounds_succ]
  go_wp2_with fail
  rw [rounds_succ]
  go_wp2_with fail
  rw [rounds_succ]
  go_wp2_with fail
  rw [rounds_succ]
  go_wp2_with fail
  rw [rounds_succ]
  go_wp2_with fail
  go_ret2
  exact ⟨rfl, HG.out⟩
end
end Go.Proofs.YtihnfhhopldllaaGreatDoor
