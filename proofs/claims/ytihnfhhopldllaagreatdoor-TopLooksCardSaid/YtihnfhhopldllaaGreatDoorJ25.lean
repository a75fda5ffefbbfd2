/- Parts of the proof of TopLooks: U24. No condition. -/
import Derived.Test.YtihnfhhopldllaaGreatDoorJ1
import Derived.Test.YtihnfhhopldllaaGreatDoorJ12
import Derived.Test.YtihnfhhopldllaaGreatDoorJ23
namespace Go.Proofs.YtihnfhhopldllaaGreatDoor
set_option linter.unusedSimpArgs false
set_option linter.unusedVariables false
set_option maxHeartbeats 6400000
set_option maxRecDepth 100000
section
open Go.RowKit
def LayC (k : Nat) (j : Ro) : Prop := ∀ (B : Nat) (w : World) (v a : Value) (n : Nat) (xs : List Value), w.ownsRow B 5 1 v n xs → Is .J (fun b => v.ownBlock ≠ some b) w k j a → n + (prJ k j).length ≤ 1000000000 → B ≤ w.heap.size →
  Calls Tryz.prog 63 #[v, a] w fun e w' => OwR w w' B v n xs (prJ k j) e
theorem joinC_app (a b : List (List UInt8)) : (joinC a).length ≤ (joinC (a ++ b)).length := by
  cases a with
  | nil => exact Nat.zero_le _
  | cons x a => simp [joinC]
theorem jc_step {α : Type} {l : List α} (f : α → List UInt8) {K : Nat} {y : α} (h : l[K]? = some y) : joinC ((l.take (K + 1)).map f) = joinC ((l.take K).map f) ++ ((if K = 0 then [] else [44]) ++ f y) := by
  rw [List.take_add_one, h, List.map_append]
  by_cases hK : K = 0
  · subst hK
    simp [joinC]
  · rw [if_neg hK]
    show joinC (_ ++ [f y]) = _
    rw [joinC_snoc]
    · rfl
    · have := (List.getElem?_eq_some_iff.1 h).1
      intro e
      have e2 := congrArg List.length e
      simp only [List.length_map, List.length_take, List.length_nil] at e2
      omega
theorem last2 (w : World) (o1 o2 : Obj) : ((w.alloc o1).alloc o2).heap[w.heap.size + 1]? = some o2 := by
  have h := heap_alloc_last (w.alloc o1) o2
  have e : (w.alloc o1).heap.size = w.heap.size + 1 := by simp
  rw [e] at h
  exact h
theorem jc_le {α : Type} (l : List α) (f : α → List UInt8) (K : Nat) : (joinC ((l.take K).map f)).length ≤ (joinC (l.map f)).length := by
  have h : l.map f = (l.take K).map f ++ (l.drop K).map f := by rw [← List.map_append, List.take_append_drop]
  rw [h]
  exact joinC_app _ _
theorem lay_7 (k : Nat) (l : KL) (hl : l.length ≤ 20) (ad : Option Addr) (m c : Nat) (hm : l.length = m) (B : Nat) (w : World) (v : Value) (n : Nat) (xs : List Value) (hown : w.ownsRow B 5 1 v n xs) (hB : B ≤ w.heap.size)
    (hk : Kd .J (fun b => v.ownBlock ≠ some b) w (k + 1) l (.slice ad m c)) (hn : n + (123 :: (joinC (l.map (fun x => quote x.1 ++ 58 :: prJ k x.2)) ++ [125])).length ≤ 1000000000) (hnm : ∀ x ∈ l, x.1.length ≤ 200 ∧ Wh x.1)
    (ih : ∀ x ∈ l, LayC k x.2) :
    Calls Tryz.prog 63 #[v, .agg #[.int .i64 7, .string { data := #[] }, .slice ad m c]] w fun e w' => OwR w w' B v n xs (123 :: (joinC (l.map (fun x => quote x.1 ++ 58 :: prJ k x.2)) ++ [125])) e := by
  have HK := Lib.hid hk
  have HI := Lib.hid ih
  have HM := Lib.hid hm
  have HNM := Lib.hid hnm
  have HW := Lib.hid hown
  have hm20 : m ≤ 20 := by omega
  have hn1 : n + (joinC (l.map (fun x => quote x.1 ++ 58 :: prJ k x.2))).length + 2 ≤ 1000000000 := by simp only [List.length_cons, List.length_append, List.length_nil] at hn; omega
  have HJ : Hid (∀ K y, l[K]? = some y → joinC ((l.take (K + 1)).map (fun x => quote x.1 ++ 58 :: prJ k x.2)) = joinC ((l.take K).map (fun x => quote x.1 ++ 58 :: prJ k x.2)) ++ ((if K = 0 then [] else [44]) ++ (fun x => quote x.1 ++ 58 :: prJ k x.2) y)) := Lib.hid (fun K y h => jc_step _ h)
  have HJL : Hid (∀ K, (joinC ((l.take K).map (fun x => quote x.1 ++ 58 :: prJ k x.2))).length ≤ (joinC (l.map (fun x => quote x.1 ++ 58 :: prJ k x.2))).length) := Lib.hid (fun K => jc_le _ _ K)
  have HT : Hid (joinC ((l.take m).map (fun x => quote x.1 ++ 58 :: prJ k x.2)) = joinC (l.map (fun x => quote x.1 ++ 58 :: prJ k x.2))) := Lib.hid (by rw [List.take_of_length_le (by omega)])
  have hvl : v.ownBlock ≠ some w.heap.size := fun e => by have := (World.ownsRow.lt hown _ e).2; omega
  obtain ⟨J, hJ⟩ : ∃ J : Nat → List UInt8, (fun K => joinC ((l.take K).map (fun x => quote x.1 ++ 58 :: prJ k x.2))) = J := ⟨_, rfl⟩
  obtain ⟨JT, hJT⟩ : ∃ J : List UInt8, joinC (l.map (fun x => quote x.1 ++ 58 :: prJ k x.2)) = J := ⟨_, rfl⟩
  have hJ' : ∀ K, joinC ((l.take K).map (fun x => quote x.1 ++ 58 :: prJ k x.2)) = J K := fun K => congrFun hJ K
  simp only [hJ', hJT] at HJ HJL HT hn1 ⊢
  have hJ0 : J 0 = [] := by rw [← hJ]; rfl
  clear hk ih hm hl hnm hown hn hJ hJ' hJT
  obtain ⟨i0, hi, iz0, iz1, iz2⟩ := hi_u8
  obtain ⟨w1, hw1⟩ : ∃ w1, w1 = w.alloc (.cells #[.int .i64 7, .string { data := #[] }, .slice ad m c] 77) := ⟨_, rfl⟩
  have hb1 : Below w.heap.size w w1 := by rw [hw1]; exact bel
  have hs1 : w1.heap.size = w.heap.size + 1 := by rw [hw1]; simp
  have B0 : w1.cell? ⟨w.heap.size, 0, none⟩ = some (.int .i64 7) := by rw [hw1]; simp [go_sem]
  have B2 : w1.cell? ⟨w.heap.size, 2, none⟩ = some (.slice ad m c) := by rw [hw1]; simp [go_sem]
  have B1 := Lib.hid (And.intro B0 B2)
  have hO1 := World.ownsRow.alloc HW.out (.cells #[.int .i64 7, .string { data := #[] }, .slice ad m c] 77)
  rw [← hw1] at hO1
  have HO1 := Lib.hid hO1
  clear B0 B2 hO1
  cases hb : decide (0 < m)
  all_goals
   go_enter Tryz.func63, Tryz.ntmps63
   go_wp2_with (at_builtin; go_loud (refine wpList_append_lies _ rfl _ _ 24 rfl B 5 i0 _ 1 1 Tryz.underlying24 hi iz0 iz1 iz2 rfl (by decide) _ (n) _ rfl (World.ownsRow.alloc (World.ownsRow.alloc HW.out _) _) ⟨w.heap.size + 1, 0, none⟩ 1 1 [.int .u8 123] rfl rfl (World.news_of_block (cs := #[.int .u8 123]) (last2 w (.cells #[.int .i64 7, .string { data := #[] }, .slice ad m c] 77) _)) one_u8x (by decide) (by unfold maxLen; omega) (by omega) (by simp; omega) _ rfl ?_; intro g7 cap7 w7 hown7 hgrow7 hat7 hlt7; have hO7 : Hid (Ow 5 w1 w7 B v (.slice (some ⟨g7, 0, none⟩) (n + 1) cap7) (n + 1) (xs ++ cel (123 :: J 0))) := Lib.hid (by rw [hJ0]; exact Ow.before (Ow.lies hown7 hgrow7 hat7) (by rw [hw1]; exact bel)); clear hown7 hgrow7 hat7 hlt7; have q2 : w7.cell? ⟨w.heap.size, 2, none⟩ = some (.slice ad m c) := hO7.out.cell (by omega) hvl B1.out.2))
   go_wp2_with fail
   go_loopw [0, 45] (fun b x wr => ∃ K g cap N XS, K ≤ m ∧ b = .slice (some ⟨g, 0, none⟩) N cap ∧ x = .int .i64 K ∧ Hid (N = n + 1 + (J K).length) ∧ Hid (XS = xs ++ cel (123 :: J K)) ∧ Hid (Ow 5 w1 wr B v (.slice (some ⟨g, 0, none⟩) N cap) N XS)) (fun _ x _ => m - (intOf x).toNat)
   case atStart => exact ⟨0, g7, cap7, _, _, Nat.zero_le _, rfl, rfl, Lib.hid (by rw [hJ0]; rfl), Lib.hid rfl, hO7⟩
   case round =>
     clear hO7 q2
     obtain ⟨K, g, cap, N, XS, hK, rfl, rfl, HN, HX, HO⟩ := hrel
     have hs := HO.out.size
     have hltw : w.heap.size < wr.heap.size := by omega
     have q0 : wr.cell? ⟨w.heap.size, 0, none⟩ = some (.int .i64 7) := HO.out.cell (by omega) hvl B1.out.1
     have hgl : B ≤ g ∧ g < wr.heap.size := World.ownsRow.lt HO.out.own g rfl
     have hgH : g ≠ w.heap.size := by
       rcases HO.out.at' g rfl with h | h
       · intro e; subst e; exact hvl h
       · omega
     by_cases hKm : K < m
     · obtain ⟨⟨kn, kx⟩, hkx⟩ : ∃ x, l[K]? = some x := ⟨_, List.getElem?_eq_getElem (by have := HM.out; omega)⟩
       obtain ⟨b, o, bv, s, rfl, hqb, hbl, hra, hby, hkd⟩ := HK.out.at hkx
       have hblk : wr.heap[b]? = w.heap[b]? := (HO.out.grown.block b (by omega) (fun e => hqb e.symm)).trans (hb1.block b hbl)
       obtain ⟨sd, sc, rfl⟩ := hkd.slice
       obtain ⟨r0, r1, r2, r3⟩ := rowJ (rangeAt_block hblk hra)
       have hnm : kn.length ≤ 200 ∧ Wh kn := HNM.out _ (List.mem_of_getElem? hkx)
       have hjs := HJ.out K _ hkx
       have hjl := HJL.out (K + 1)
       rw [hjs] at hjl
       have HIx := HI.out _ (List.mem_of_getElem? hkx)
       have HL : Hid (∀ w7 v7 N7 xs7, Ow 5 w w7 B v v7 N7 xs7 → N7 + (prJ k kx).length ≤ 1000000000 → Calls Tryz.prog 63 #[v7, .agg #[.int .i64 kx.o.kind, .string (bs kx.o.text), .slice sd kx.kids.length sc]] w7 fun e w8 => OwR w7 w8 B v7 N7 xs7 (prJ k kx) e) := Lib.hid (fun w7 v7 N7 xs7 h hN => HIx B w7 v7 _ N7 xs7 h.own (h.is ⟨.slice none 0 0, _, rfl, True.intro, hkd⟩) hN (Nat.le_trans hB h.size))
       obtain ⟨qn, hqn⟩ : ∃ q, quote kn = q := ⟨_, rfl⟩
       have HQ : Hid (∀ (w : World) (v : Value) (n : Nat) (xs : List Value), w.ownsRow B 5 1 v n xs → n + qn.length ≤ 1000000000 → B ≤ w.heap.size → Calls Tryz.prog 108 #[v, .string (bs kn)] w fun e w' => OwR w w' B v n xs qn e) := Lib.hid (fun w v n xs h1 h2 h3 => by
         rw [← hqn] at h2 ⊢
         exact quoted_any kn (by omega) hnm.2 B w v n xs h1 h2 h3)
       simp only [hqn] at hjs hjl
       generalize bs kn = V0 at *
       clear hqn
       obtain ⟨p, hp⟩ : ∃ q, prJ k kx = q := ⟨_, rfl⟩
       simp only [hp] at HL hjs hjl
       generalize kx.o.kind = V1 at *
       generalize bs kx.o.text = V2 at *
       generalize kx.kids.length = V3 at *
       clear hra hkd hblk hkx hby hnm hp HIx hqb hbl
       cases hb0 : decide (0 < K)
       · have hK0 : K = 0 := by have := of_decide_eq_false hb0; omega
         rw [if_pos hK0] at hjs hjl
         clear hK0
         simp only [List.length_append, List.length_cons, List.length_nil] at hjl
         have hNb : N + qn.length + 1 + p.length + 1 ≤ 1000000000 := by have := HN.out; omega
         clear hjl
         obtain ⟨W3, hW3⟩ : ∃ W, W = wr.alloc (.cells #[.string V0, .int .i64 V1, .string V2, .slice sd V3 sc] 166) := ⟨_, rfl⟩
         have hs3 : W3.heap.size = wr.heap.size + 1 := by rw [hW3]; simp
         have hb3 : Below wr.heap.size wr W3 := by rw [hW3]; exact bel
         have hv3 : (Value.slice (some ⟨g, 0, none⟩) N cap).ownBlock ≠ some wr.heap.size := by simp [Value.ownBlock]; omega
         have hvw : (Value.slice (some ⟨g, 0, none⟩) N cap).ownBlock ≠ some w.heap.size := by simp [Value.ownBlock]; omega
         have c0 : W3.cell? ⟨wr.heap.size, 0, none⟩ = some (.string V0) := by rw [hW3]; simp [go_sem]
         have c1 : W3.cell? ⟨wr.heap.size, 1, none⟩ = some (.int .i64 V1) := by rw [hW3]; simp [go_sem]
         have c2 : W3.cell? ⟨wr.heap.size, 2, none⟩ = some (.string V2) := by rw [hW3]; simp [go_sem]
         have c3 : W3.cell? ⟨wr.heap.size, 3, none⟩ = some (.slice sd V3 sc) := by rw [hW3]; simp [go_sem]
         have p0 := (hb3.cell (p := ⟨w.heap.size, 0, none⟩) (show w.heap.size < wr.heap.size by omega)).trans q0
         have hO3 : Ow 5 W3 W3 B (.slice (some ⟨g, 0, none⟩) N cap) (.slice (some ⟨g, 0, none⟩) N cap) N XS := Ow.refl (by rw [hW3]; exact World.ownsRow.alloc HO.out.own _)
         have hC := Lib.hid (And.intro c0 (And.intro c1 (And.intro c2 (And.intro c3 p0))))
         clear c0 c1 c2 c3 p0
         go_wp2_with fail
         with_reducible refine (HQ.out _ _ _ _ (World.ownsRow.alloc HO.out.own _) (by omega) (by simp; omega)).mono ?_
         rintro e w6 ⟨g6, cap6, rfl, how6⟩
         rw [← hW3] at how6
         have hO6 := hO3.trans how6
         obtain ⟨c0, c1, c2, c3, p0⟩ := hC.out
         have c1_6 := hO6.cell (by omega) hv3 c1
         have c2_6 := hO6.cell (by omega) hv3 c2
         have c3_6 := hO6.cell (by omega) hv3 c3
         have hz6 := hO6.size
         clear c0 c1 c2 c3 p0 how6
         go_wp2_with (at_builtin; go_loud (refine wpList_append_lies _ rfl _ _ 24 rfl B 5 i0 _ 1 1 Tryz.underlying24 hi iz0 iz1 iz2 rfl (by decide) _ (N + qn.length) _ rfl (World.ownsRow.alloc (hO6.own) _) ⟨w6.heap.size, 0, none⟩ 1 1 [.int .u8 58] rfl rfl (World.news_of_block (cs := #[.int .u8 58]) (heap_alloc_last (w6) _)) one_u8x (by decide) (by unfold maxLen; omega) (by omega) (by simp; omega) _ rfl ?_; intro g7 cap7 w7 hown7 hgrow7 hat7 hlt7; have hO7 := hO6.trans (Ow.before (Ow.lies hown7 hgrow7 hat7) bel); obtain ⟨c0, c1, c2, c3, p0⟩ := hC.out; have c1_7 := hO7.cell (by omega) hv3 c1; have c2_7 := hO7.cell (by omega) hv3 c2; have c3_7 := hO7.cell (by omega) hv3 c3; have hz7 := hO7.size; clear c0 c1 c2 c3 p0 hown7 hgrow7 hat7 hlt7 hO6 c1_6 c2_6 c3_6))
         go_wp2_with fail
         have hOa := HO.out.trans (hO7.before hb3)
         with_reducible refine (HL.out _ _ _ _ (hOa.before hb1) (by omega)).mono ?_
         rintro e w8 ⟨g8, cap8, rfl, how8⟩
         have hO8 := hOa.trans how8
         clear how8 hOa
         go_wp2_with fail
         go_roundw
         case rel => exact ⟨K + 1, g8, cap8, _, _, by omega, rfl, by go_num, Lib.hid (by rw [hjs, HN.out]; simp; omega), Lib.hid (by rw [HX.out, hjs]; simp [cel]), Lib.hid hO8⟩
         case measure => simp [intOf]; omega
       · have hK0 : K ≠ 0 := by have := of_decide_eq_true hb0; omega
         rw [if_neg hK0] at hjs hjl
         clear hK0
         simp only [List.length_append, List.length_cons, List.length_nil] at hjl
         have hNb : N + 1 + qn.length + 1 + p.length + 1 ≤ 1000000000 := by have := HN.out; omega
         clear hjl
         obtain ⟨W3, hW3⟩ : ∃ W, W = wr.alloc (.cells #[.string V0, .int .i64 V1, .string V2, .slice sd V3 sc] 166) := ⟨_, rfl⟩
         have hs3 : W3.heap.size = wr.heap.size + 1 := by rw [hW3]; simp
         have hb3 : Below wr.heap.size wr W3 := by rw [hW3]; exact bel
         have hv3 : (Value.slice (some ⟨g, 0, none⟩) N cap).ownBlock ≠ some wr.heap.size := by simp [Value.ownBlock]; omega
         have hvw : (Value.slice (some ⟨g, 0, none⟩) N cap).ownBlock ≠ some w.heap.size := by simp [Value.ownBlock]; omega
         have c0 : W3.cell? ⟨wr.heap.size, 0, none⟩ = some (.string V0) := by rw [hW3]; simp [go_sem]
         have c1 : W3.cell? ⟨wr.heap.size, 1, none⟩ = some (.int .i64 V1) := by rw [hW3]; simp [go_sem]
         have c2 : W3.cell? ⟨wr.heap.size, 2, none⟩ = some (.string V2) := by rw [hW3]; simp [go_sem]
         have c3 : W3.cell? ⟨wr.heap.size, 3, none⟩ = some (.slice sd V3 sc) := by rw [hW3]; simp [go_sem]
         have p0 := (hb3.cell (p := ⟨w.heap.size, 0, none⟩) (show w.heap.size < wr.heap.size by omega)).trans q0
         have hO3 : Ow 5 W3 W3 B (.slice (some ⟨g, 0, none⟩) N cap) (.slice (some ⟨g, 0, none⟩) N cap) N XS := Ow.refl (by rw [hW3]; exact World.ownsRow.alloc HO.out.own _)
         have hC := Lib.hid (And.intro c0 (And.intro c1 (And.intro c2 (And.intro c3 p0))))
         clear c0 c1 c2 c3 p0
         go_wp2_with (at_builtin; go_loud (refine wpList_append_lies _ rfl _ _ 24 rfl B 5 i0 _ 1 1 Tryz.underlying24 hi iz0 iz1 iz2 rfl (by decide) _ (N) _ rfl (World.ownsRow.alloc (World.ownsRow.alloc HO.out.own _) _) ⟨wr.heap.size + 1, 0, none⟩ 1 1 [.int .u8 44] rfl rfl (World.news_of_block (cs := #[.int .u8 44]) (last2 wr (.cells #[.string V0, .int .i64 V1, .string V2, .slice sd V3 sc] 166) _)) one_u8x (by decide) (by unfold maxLen; omega) (by omega) (by simp; omega) _ rfl ?_; intro g5 cap5 w5 hown5 hgrow5 hat5 hlt5; have hO5 : Ow 5 W3 w5 B (.slice (some ⟨g, 0, none⟩) N cap) (.slice (some ⟨g5, 0, none⟩) (N + 1) cap5) (N + 1) (XS ++ [.int .u8 44]) := Ow.before (Ow.lies hown5 hgrow5 hat5) (by rw [hW3]; exact bel); obtain ⟨c0, c1, c2, c3, p0⟩ := hC.out; have c0_5 := hO5.cell (by omega) hv3 c0; have c1_5 := hO5.cell (by omega) hv3 c1; have c2_5 := hO5.cell (by omega) hv3 c2; have c3_5 := hO5.cell (by omega) hv3 c3; have p0_5 := hO5.cell (by omega) hvw p0; have hz5 := hO5.size; clear c0 c1 c2 c3 p0 hown5 hgrow5 hat5 hlt5))
         go_wp2_with fail
         with_reducible refine (HQ.out _ _ _ _ hO5.own (by omega) (by omega)).mono ?_
         rintro e w6 ⟨g6, cap6, rfl, how6⟩
         have hO6 := hO5.trans how6
         obtain ⟨c0, c1, c2, c3, p0⟩ := hC.out
         have c1_6 := hO6.cell (by omega) hv3 c1
         have c2_6 := hO6.cell (by omega) hv3 c2
         have c3_6 := hO6.cell (by omega) hv3 c3
         have hz6 := hO6.size
         clear c0 c1 c2 c3 p0 how6 hO5 c0_5 c1_5 c2_5 c3_5 p0_5
         go_wp2_with (at_builtin; go_loud (refine wpList_append_lies _ rfl _ _ 24 rfl B 5 i0 _ 1 1 Tryz.underlying24 hi iz0 iz1 iz2 rfl (by decide) _ (N + 1 + qn.length) _ rfl (World.ownsRow.alloc (hO6.own) _) ⟨w6.heap.size, 0, none⟩ 1 1 [.int .u8 58] rfl rfl (World.news_of_block (cs := #[.int .u8 58]) (heap_alloc_last (w6) _)) one_u8x (by decide) (by unfold maxLen; omega) (by omega) (by simp; omega) _ rfl ?_; intro g7 cap7 w7 hown7 hgrow7 hat7 hlt7; have hO7 := hO6.trans (Ow.before (Ow.lies hown7 hgrow7 hat7) bel); obtain ⟨c0, c1, c2, c3, p0⟩ := hC.out; have c1_7 := hO7.cell (by omega) hv3 c1; have c2_7 := hO7.cell (by omega) hv3 c2; have c3_7 := hO7.cell (by omega) hv3 c3; have hz7 := hO7.size; clear c0 c1 c2 c3 p0 hown7 hgrow7 hat7 hlt7 hO6 c1_6 c2_6 c3_6))
         go_wp2_with fail
         have hOa := HO.out.trans (hO7.before hb3)
         with_reducible refine (HL.out _ _ _ _ (hOa.before hb1) (by omega)).mono ?_
         rintro e w8 ⟨g8, cap8, rfl, how8⟩
         have hO8 := hOa.trans how8
         clear how8 hOa
         go_wp2_with fail
         go_roundw
         case rel => exact ⟨K + 1, g8, cap8, _, _, by omega, rfl, by go_num, Lib.hid (by rw [hjs, HN.out]; simp; omega), Lib.hid (by rw [HX.out, hjs]; simp [cel]), Lib.hid hO8⟩
         case measure => simp [intOf]; omega
     · have hKe : K = m := by omega
       have hJm : J K = JT := by rw [hKe]; exact HT.out
       have hJl := HJL.out K
       have hNb : N + 1 ≤ 1000000000 := by have := HN.out; omega
       have hl : n + (123 :: (JT ++ [125])).length = N + 1 := by rw [HN.out, hJm]; simp; omega
       have hx : xs ++ cel (123 :: (JT ++ [125])) = XS ++ [.int .u8 125] := by rw [HX.out, hJm]; simp [cel]
       have hl := Lib.hid hl
       have hx := Lib.hid hx
       clear hKm hK hJm hJl
       subst hKe
       go_wp2_with (at_builtin; go_loud (refine wpList_append_lies _ rfl _ _ 24 rfl B 5 i0 _ 1 1 Tryz.underlying24 hi iz0 iz1 iz2 rfl (by decide) _ (N) _ rfl (World.ownsRow.alloc (HO.out.own) _) ⟨wr.heap.size, 0, none⟩ 1 1 [.int .u8 125] rfl rfl (World.news_of_block (cs := #[.int .u8 125]) (heap_alloc_last (wr) _)) one_u8x (by decide) (by unfold maxLen; omega) (by omega) (by simp; omega) _ rfl ?_; intro g9 cap9 w9 hown9 hgrow9 hat9 hlt9; have hO9 := (HO.out.trans (Ow.before (Ow.lies hown9 hgrow9 hat9) bel)).before hb1; clear hown9 hgrow9 hat9))
       go_ret
       have hl := hl.out
       have hx := hx.out
       exact ⟨g9, cap9, by rw [hl]; rfl, by rw [hl, hx]; exact hO9⟩
end
end Go.Proofs.YtihnfhhopldllaaGreatDoor
