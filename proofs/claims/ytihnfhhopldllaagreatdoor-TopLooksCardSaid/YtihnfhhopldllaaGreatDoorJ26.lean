/- Parts of the proof of TopLooks: U25, U26, U27, U28. No condition. -/
import Derived.Test.YtihnfhhopldllaaGreatDoorJ1
import Derived.Test.YtihnfhhopldllaaGreatDoorJ23
import Derived.Test.YtihnfhhopldllaaGreatDoorJ25
namespace Go.Proofs.YtihnfhhopldllaaGreatDoor
set_option linter.unusedSimpArgs false
set_option linter.unusedVariables false
set_option maxHeartbeats 6400000
set_option maxRecDepth 100000
section
open Go.RowKit
theorem lay_6 (k : Nat) (l : KL) (hl : l.length ≤ 20) (ad : Option Addr) (m c : Nat) (hm : l.length = m) (B : Nat) (w : World) (v : Value) (n : Nat) (xs : List Value) (hown : w.ownsRow B 5 1 v n xs) (hB : B ≤ w.heap.size)
    (hk : Kd .J (fun b => v.ownBlock ≠ some b) w (k + 1) l (.slice ad m c)) (hn : n + (91 :: (joinC (l.map (fun x => prJ k x.2)) ++ [93])).length ≤ 1000000000) (hnm : ∀ x ∈ l, x.1 = [])
    (ih : ∀ x ∈ l, LayC k x.2) :
    Calls Tryz.prog 63 #[v, .agg #[.int .i64 6, .string { data := #[] }, .slice ad m c]] w fun e w' => OwR w w' B v n xs (91 :: (joinC (l.map (fun x => prJ k x.2)) ++ [93])) e := by
  have HK := Lib.hid hk
  have HI := Lib.hid ih
  have HM := Lib.hid hm
  have HNM := Lib.hid hnm
  have HW := Lib.hid hown
  have hm20 : m ≤ 20 := by omega
  have hn1 : n + (joinC (l.map (fun x => prJ k x.2))).length + 2 ≤ 1000000000 := by simp only [List.length_cons, List.length_append, List.length_nil] at hn; omega
  have HJ : Hid (∀ K y, l[K]? = some y → joinC ((l.take (K + 1)).map (fun x => prJ k x.2)) = joinC ((l.take K).map (fun x => prJ k x.2)) ++ ((if K = 0 then [] else [44]) ++ (fun x => prJ k x.2) y)) := Lib.hid (fun K y h => jc_step _ h)
  have HJL : Hid (∀ K, (joinC ((l.take K).map (fun x => prJ k x.2))).length ≤ (joinC (l.map (fun x => prJ k x.2))).length) := Lib.hid (fun K => jc_le _ _ K)
  have HT : Hid (joinC ((l.take m).map (fun x => prJ k x.2)) = joinC (l.map (fun x => prJ k x.2))) := Lib.hid (by rw [List.take_of_length_le (by omega)])
  have hvl : v.ownBlock ≠ some w.heap.size := fun e => by have := (World.ownsRow.lt hown _ e).2; omega
  obtain ⟨J, hJ⟩ : ∃ J : Nat → List UInt8, (fun K => joinC ((l.take K).map (fun x => prJ k x.2))) = J := ⟨_, rfl⟩
  obtain ⟨JT, hJT⟩ : ∃ J : List UInt8, joinC (l.map (fun x => prJ k x.2)) = J := ⟨_, rfl⟩
  have hJ' : ∀ K, joinC ((l.take K).map (fun x => prJ k x.2)) = J K := fun K => congrFun hJ K
  simp only [hJ', hJT] at HJ HJL HT hn1 ⊢
  have hJ0 : J 0 = [] := by rw [← hJ]; rfl
  clear hk ih hm hl hnm hown hn hJ hJ' hJT
  obtain ⟨i0, hi, iz0, iz1, iz2⟩ := hi_u8
  obtain ⟨w1, hw1⟩ : ∃ w1, w1 = w.alloc (.cells #[.int .i64 6, .string { data := #[] }, .slice ad m c] 77) := ⟨_, rfl⟩
  have hb1 : Below w.heap.size w w1 := by rw [hw1]; exact bel
  have hs1 : w1.heap.size = w.heap.size + 1 := by rw [hw1]; simp
  have B0 : w1.cell? ⟨w.heap.size, 0, none⟩ = some (.int .i64 6) := by rw [hw1]; simp [go_sem]
  have B2 : w1.cell? ⟨w.heap.size, 2, none⟩ = some (.slice ad m c) := by rw [hw1]; simp [go_sem]
  have B1 := Lib.hid (And.intro B0 B2)
  have hO1 := World.ownsRow.alloc HW.out (.cells #[.int .i64 6, .string { data := #[] }, .slice ad m c] 77)
  rw [← hw1] at hO1
  have HO1 := Lib.hid hO1
  clear B0 B2 hO1
  cases hb : decide (0 < m)
  all_goals
   go_enter Tryz.func63, Tryz.ntmps63
   go_wp2_with (at_builtin; go_loud (refine wpList_append_lies _ rfl _ _ 24 rfl B 5 i0 _ 1 1 Tryz.underlying24 hi iz0 iz1 iz2 rfl (by decide) _ (n) _ rfl (World.ownsRow.alloc (World.ownsRow.alloc HW.out _) _) ⟨w.heap.size + 1, 0, none⟩ 1 1 [.int .u8 91] rfl rfl (World.news_of_block (cs := #[.int .u8 91]) (last2 w (.cells #[.int .i64 6, .string { data := #[] }, .slice ad m c] 77) _)) one_u8x (by decide) (by unfold maxLen; omega) (by omega) (by simp; omega) _ rfl ?_; intro g7 cap7 w7 hown7 hgrow7 hat7 hlt7; have hO7 : Hid (Ow 5 w1 w7 B v (.slice (some ⟨g7, 0, none⟩) (n + 1) cap7) (n + 1) (xs ++ cel (91 :: J 0))) := Lib.hid (by rw [hJ0]; exact Ow.before (Ow.lies hown7 hgrow7 hat7) (by rw [hw1]; exact bel)); clear hown7 hgrow7 hat7 hlt7; have q2 : w7.cell? ⟨w.heap.size, 2, none⟩ = some (.slice ad m c) := hO7.out.cell (by omega) hvl B1.out.2))
   go_wp2_with fail
   go_loopw [0, 45] (fun b x wr => ∃ K g cap N XS, K ≤ m ∧ b = .slice (some ⟨g, 0, none⟩) N cap ∧ x = .int .i64 K ∧ Hid (N = n + 1 + (J K).length) ∧ Hid (XS = xs ++ cel (91 :: J K)) ∧ Hid (Ow 5 w1 wr B v (.slice (some ⟨g, 0, none⟩) N cap) N XS)) (fun _ x _ => m - (intOf x).toNat)
   case atStart => exact ⟨0, g7, cap7, _, _, Nat.zero_le _, rfl, rfl, Lib.hid (by rw [hJ0]; rfl), Lib.hid rfl, hO7⟩
   case round =>
     clear hO7 q2
     obtain ⟨K, g, cap, N, XS, hK, rfl, rfl, HN, HX, HO⟩ := hrel
     have hs := HO.out.size
     have hltw : w.heap.size < wr.heap.size := by omega
     have q0 : wr.cell? ⟨w.heap.size, 0, none⟩ = some (.int .i64 6) := HO.out.cell (by omega) hvl B1.out.1
     have hgl : B ≤ g ∧ g < wr.heap.size := World.ownsRow.lt HO.out.own g rfl
     have hgH : g ≠ w.heap.size := by
       rcases HO.out.at' g rfl with h | h
       · intro e; subst e; exact hvl h
       · omega
     by_cases hKm : K < m
     · obtain ⟨⟨kn, kx⟩, hkx⟩ : ∃ x, l[K]? = some x := ⟨_, List.getElem?_eq_getElem (by have := HM.out; omega)⟩
       obtain ⟨b, o, bv, s, rfl, hqb, hbl, hra, hby, hkd⟩ := HK.out.at hkx
       have hblk : wr.heap[b]? = w.heap[b]? := (HO.out.grown.block b (by omega) (fun e => hqb e.symm)).trans (hb1.block b hbl)
       obtain ⟨sd, sc, rfl⟩ := hkd.slice
       obtain ⟨r0, r1, r2, r3⟩ := rowJ (rangeAt_block hblk hra)
       have hnm : kn = [] := HNM.out _ (List.mem_of_getElem? hkx)
       have hjs := HJ.out K _ hkx
       have hjl := HJL.out (K + 1)
       rw [hjs] at hjl
       have HIx := HI.out _ (List.mem_of_getElem? hkx)
       have HL : Hid (∀ w7 v7 N7 xs7, Ow 5 w w7 B v v7 N7 xs7 → N7 + (prJ k kx).length ≤ 1000000000 → Calls Tryz.prog 63 #[v7, .agg #[.int .i64 kx.o.kind, .string (bs kx.o.text), .slice sd kx.kids.length sc]] w7 fun e w8 => OwR w7 w8 B v7 N7 xs7 (prJ k kx) e) := Lib.hid (fun w7 v7 N7 xs7 h hN => HIx B w7 v7 _ N7 xs7 h.own (h.is ⟨.slice none 0 0, _, rfl, True.intro, hkd⟩) hN (Nat.le_trans hB h.size))
       have hkn : kn = [] := hnm
       subst hkn
       have hb0 : bs [] = { data := #[] } := rfl
       rw [hb0] at r0
       obtain ⟨p, hp⟩ : ∃ q, prJ k kx = q := ⟨_, rfl⟩
       simp only [hp] at HL hjs hjl
       generalize kx.o.kind = V1 at *
       generalize bs kx.o.text = V2 at *
       generalize kx.kids.length = V3 at *
       clear hra hkd hblk hkx hby hnm hp HIx hqb hbl
       cases hb0 : decide (0 < K)
       · have hK0 : K = 0 := by have := of_decide_eq_false hb0; omega
         rw [if_pos hK0] at hjs hjl
         clear hK0
         simp only [List.length_append, List.length_cons, List.length_nil] at hjl
         have hNb : N +  p.length + 1 ≤ 1000000000 := by have := HN.out; omega
         clear hjl
         obtain ⟨W3, hW3⟩ : ∃ W, W = wr.alloc (.cells #[.string { data := #[] }, .int .i64 V1, .string V2, .slice sd V3 sc] 166) := ⟨_, rfl⟩
         have hs3 : W3.heap.size = wr.heap.size + 1 := by rw [hW3]; simp
         have hb3 : Below wr.heap.size wr W3 := by rw [hW3]; exact bel
         have hv3 : (Value.slice (some ⟨g, 0, none⟩) N cap).ownBlock ≠ some wr.heap.size := by simp [Value.ownBlock]; omega
         have hvw : (Value.slice (some ⟨g, 0, none⟩) N cap).ownBlock ≠ some w.heap.size := by simp [Value.ownBlock]; omega
         have c0 : W3.cell? ⟨wr.heap.size, 0, none⟩ = some (.string { data := #[] }) := by rw [hW3]; simp [go_sem]
         have c1 : W3.cell? ⟨wr.heap.size, 1, none⟩ = some (.int .i64 V1) := by rw [hW3]; simp [go_sem]
         have c2 : W3.cell? ⟨wr.heap.size, 2, none⟩ = some (.string V2) := by rw [hW3]; simp [go_sem]
         have c3 : W3.cell? ⟨wr.heap.size, 3, none⟩ = some (.slice sd V3 sc) := by rw [hW3]; simp [go_sem]
         have p0 := (hb3.cell (p := ⟨w.heap.size, 0, none⟩) (show w.heap.size < wr.heap.size by omega)).trans q0
         have hO3 : Ow 5 W3 W3 B (.slice (some ⟨g, 0, none⟩) N cap) (.slice (some ⟨g, 0, none⟩) N cap) N XS := Ow.refl (by rw [hW3]; exact World.ownsRow.alloc HO.out.own _)
         have hC := Lib.hid (And.intro c0 (And.intro c1 (And.intro c2 (And.intro c3 p0))))
         clear c0 c1 c2 c3 p0
         go_wp2_with fail
         have hOa := HO.out.trans (hO3.before hb3)
         rw [hW3] at hOa
         with_reducible refine (HL.out _ _ _ _ (hOa.before hb1) (by omega)).mono ?_
         rintro e w8 ⟨g8, cap8, rfl, how8⟩
         have hO8 := hOa.trans how8
         clear how8 hOa
         go_wp2_with fail
         go_roundw
         case rel => exact ⟨K + 1, g8, cap8, _, _, by omega, rfl, by go_num, Lib.hid (by rw [hjs, HN.out]; simp; omega), Lib.hid (by rw [HX.out, hjs]; simp [cel]), Lib.hid hO8⟩
         case measure => simp [intOf]; omega
       · have hK0 : K ≠ 0 := by have := of_decide_eq_true hb0; omega
         rw [if_neg hK0] at hjs hjl
         clear hK0
         simp only [List.length_append, List.length_cons, List.length_nil] at hjl
         have hNb : N + 1 +  p.length + 1 ≤ 1000000000 := by have := HN.out; omega
         clear hjl
         obtain ⟨W3, hW3⟩ : ∃ W, W = wr.alloc (.cells #[.string { data := #[] }, .int .i64 V1, .string V2, .slice sd V3 sc] 166) := ⟨_, rfl⟩
         have hs3 : W3.heap.size = wr.heap.size + 1 := by rw [hW3]; simp
         have hb3 : Below wr.heap.size wr W3 := by rw [hW3]; exact bel
         have hv3 : (Value.slice (some ⟨g, 0, none⟩) N cap).ownBlock ≠ some wr.heap.size := by simp [Value.ownBlock]; omega
         have hvw : (Value.slice (some ⟨g, 0, none⟩) N cap).ownBlock ≠ some w.heap.size := by simp [Value.ownBlock]; omega
         have c0 : W3.cell? ⟨wr.heap.size, 0, none⟩ = some (.string { data := #[] }) := by rw [hW3]; simp [go_sem]
         have c1 : W3.cell? ⟨wr.heap.size, 1, none⟩ = some (.int .i64 V1) := by rw [hW3]; simp [go_sem]
         have c2 : W3.cell? ⟨wr.heap.size, 2, none⟩ = some (.string V2) := by rw [hW3]; simp [go_sem]
         have c3 : W3.cell? ⟨wr.heap.size, 3, none⟩ = some (.slice sd V3 sc) := by rw [hW3]; simp [go_sem]
         have p0 := (hb3.cell (p := ⟨w.heap.size, 0, none⟩) (show w.heap.size < wr.heap.size by omega)).trans q0
         have hO3 : Ow 5 W3 W3 B (.slice (some ⟨g, 0, none⟩) N cap) (.slice (some ⟨g, 0, none⟩) N cap) N XS := Ow.refl (by rw [hW3]; exact World.ownsRow.alloc HO.out.own _)
         have hC := Lib.hid (And.intro c0 (And.intro c1 (And.intro c2 (And.intro c3 p0))))
         clear c0 c1 c2 c3 p0
         go_wp2_with (at_builtin; go_loud (refine wpList_append_lies _ rfl _ _ 24 rfl B 5 i0 _ 1 1 Tryz.underlying24 hi iz0 iz1 iz2 rfl (by decide) _ (N) _ rfl (World.ownsRow.alloc (World.ownsRow.alloc HO.out.own _) _) ⟨wr.heap.size + 1, 0, none⟩ 1 1 [.int .u8 44] rfl rfl (World.news_of_block (cs := #[.int .u8 44]) (last2 wr (.cells #[.string { data := #[] }, .int .i64 V1, .string V2, .slice sd V3 sc] 166) _)) one_u8x (by decide) (by unfold maxLen; omega) (by omega) (by simp; omega) _ rfl ?_; intro g5 cap5 w5 hown5 hgrow5 hat5 hlt5; have hO5 : Ow 5 W3 w5 B (.slice (some ⟨g, 0, none⟩) N cap) (.slice (some ⟨g5, 0, none⟩) (N + 1) cap5) (N + 1) (XS ++ [.int .u8 44]) := Ow.before (Ow.lies hown5 hgrow5 hat5) (by rw [hW3]; exact bel); obtain ⟨c0, c1, c2, c3, p0⟩ := hC.out; have c0_5 := hO5.cell (by omega) hv3 c0; have c1_5 := hO5.cell (by omega) hv3 c1; have c2_5 := hO5.cell (by omega) hv3 c2; have c3_5 := hO5.cell (by omega) hv3 c3; have p0_5 := hO5.cell (by omega) hvw p0; have hz5 := hO5.size; clear c0 c1 c2 c3 p0 hown5 hgrow5 hat5 hlt5))
         go_wp2_with fail
         have hOa := HO.out.trans (hO5.before hb3)
         with_reducible refine (HL.out _ _ _ _ (hOa.before hb1) (by omega)).mono ?_
         rintro e w8 ⟨g8, cap8, rfl, how8⟩
         have hO8 := hOa.trans how8
         clear how8 hOa
         go_wp2_with fail
         go_roundw
         case rel => exact ⟨K + 1, g8, cap8, _, _, by omega, rfl, by go_num, Lib.hid (by rw [hjs, HN.out]; simp; omega), Lib.hid (by rw [HX.out, hjs]; simp [cel]), Lib.hid hO8⟩
         case measure => simp [intOf]; omega
     · have hKe : K = m := by omega
       have hJm : J K = JT := by rw [hKe]; exact HT.out
       have hJl := HJL.out K
       have hNb : N + 1 ≤ 1000000000 := by have := HN.out; omega
       have hl : n + (91 :: (JT ++ [93])).length = N + 1 := by rw [HN.out, hJm]; simp; omega
       have hx : xs ++ cel (91 :: (JT ++ [93])) = XS ++ [.int .u8 93] := by rw [HX.out, hJm]; simp [cel]
       have hl := Lib.hid hl
       have hx := Lib.hid hx
       clear hKm hK hJm hJl
       subst hKe
       go_wp2_with (at_builtin; go_loud (refine wpList_append_lies _ rfl _ _ 24 rfl B 5 i0 _ 1 1 Tryz.underlying24 hi iz0 iz1 iz2 rfl (by decide) _ (N) _ rfl (World.ownsRow.alloc (HO.out.own) _) ⟨wr.heap.size, 0, none⟩ 1 1 [.int .u8 93] rfl rfl (World.news_of_block (cs := #[.int .u8 93]) (heap_alloc_last (wr) _)) one_u8x (by decide) (by unfold maxLen; omega) (by omega) (by simp; omega) _ rfl ?_; intro g9 cap9 w9 hown9 hgrow9 hat9 hlt9; have hO9 := (HO.out.trans (Ow.before (Ow.lies hown9 hgrow9 hat9) bel)).before hb1; clear hown9 hgrow9 hat9))
       go_ret
       have hl := hl.out
       have hx := hx.out
       exact ⟨g9, cap9, by rw [hl]; rfl, by rw [hl, hx]; exact hO9⟩
end
section
open Go.RowKit
theorem prJ_S (k : Nat) (x : List UInt8) : prJ k (jS x) = quote x := by cases k <;> rfl
theorem prJ_N (k : Nat) (x : List UInt8) : prJ k (jN x) = x := by cases k <;> rfl
theorem lay_S (k : Nat) (x : List UInt8) (hx : x.length ≤ 200) (hw : Wh x) : LayC k (jS x) := fun B w v a n xs hown hi hn hB => by
  obtain ⟨ad, c, rfl⟩ := isJ_form hi
  clear hi
  rw [prJ_S] at hn ⊢
  obtain ⟨q, hq⟩ : ∃ q, quote x = q := ⟨_, rfl⟩
  have HQ : Hid (∀ (w : World) (v : Value) (n : Nat) (xs : List Value), w.ownsRow B 5 1 v n xs → n + q.length ≤ 1000000000 → B ≤ w.heap.size → Calls Tryz.prog 108 #[v, .string (bs x)] w fun e w' => OwR w w' B v n xs q e) := Lib.hid (fun w v n xs h1 h2 h3 => by
    rw [← hq] at h2 ⊢
    exact quoted_any x (by omega) hw B w v n xs h1 h2 h3)
  rw [hq] at hn ⊢
  show Calls Tryz.prog 63 #[v, .agg #[.int .i64 5, .string (bs x), .slice ad 0 c]] w _
  generalize bs x = T0 at *
  have HO := Lib.hid hown
  have HN := Lib.hid hn
  clear hown hn hq
  go_enter Tryz.func63, Tryz.ntmps63
  go_wp2_with fail
  with_reducible refine (HQ.out _ _ _ _ (World.ownsRow.alloc HO.out _) HN.out (by simp; omega)).mono ?_
  rintro e w6 ⟨g6, cap6, rfl, how6⟩
  have hO6 := how6.before (w0 := w) bel
  clear how6
  go_wp2_with fail
  go_ret
  exact ⟨g6, cap6, rfl, hO6⟩
theorem lay_N (k : Nat) (x : List UInt8) (h0 : 0 < x.length) : LayC k (jN x) := fun B w v a n xs hown hi hn hB => by
  obtain ⟨ad, c, rfl⟩ := isJ_form hi
  clear hi
  rw [prJ_N] at hn ⊢
  show Calls Tryz.prog 63 #[v, .agg #[.int .i64 4, .string (bs x), .slice ad 0 c]] w _
  have HQ : Hid ((bs x).size = x.length) := Lib.hid (bs_size x)
  have HS : Hid (Lib.strCells (bs x) = cel x) := Lib.hid (cel_str x)
  generalize bs x = T0 at *
  obtain ⟨i0, hi, iz0, iz1, iz2⟩ := hi_u8
  have HO := Lib.hid hown
  have HN := Lib.hid hn
  clear hown hn
  go_enter Tryz.func63, Tryz.ntmps63
  go_wp2_with (at_builtin; go_loud (refine wpList_append_ow_string _ rfl _ _ 24 9 rfl B 5 i0 Tryz.underlying24 ty_str hi iz0 iz1 iz2 _ n _ rfl (World.ownsRow.alloc HO.out _) T0 rfl (by have := HQ.out; omega) (by have := HN.out; have := HQ.out; unfold maxLen; omega) (by have := HN.out; have := HQ.out; omega) (by simp; omega) ?_; intro g cap w2 how))
  have how2 := how.before (w0 := w) bel
  clear how
  go_wp2_with fail
  go_ret
  have hq := HQ.out
  rw [hq, HS.out] at how2
  exact ⟨g, cap, by rw [hq]; rfl, how2⟩
theorem lay_any : ∀ (k : Nat) (j : Ro), Jk k j → LayC k j
  | 0, j, h => by
    rcases h with ⟨x, h1, h2, rfl⟩ | rfl
    · exact lay_S 0 x h1 h2
    · exact lay_N 0 _ (by decide)
  | k + 1, j, h => by
    rcases h with (⟨x, h1, h2, rfl⟩ | rfl) | ⟨l, hl, ⟨rfl, h⟩ | ⟨rfl, h⟩⟩
    · exact lay_S _ x h1 h2
    · exact lay_N _ _ (by decide)
    · intro B w v a n xs hown hi hn hB
      obtain ⟨ad, c, rfl⟩ := isJ_form hi
      exact lay_7 k l hl ad l.length c rfl B w v n xs hown hB (isJ_kids hi) hn (fun x hx => ⟨(h x hx).1, (h x hx).2.1⟩) (fun x hx => lay_any k x.2 (h x hx).2.2)
    · intro B w v a n xs hown hi hn hB
      obtain ⟨ad, c, rfl⟩ := isJ_form hi
      exact lay_6 k l hl ad l.length c rfl B w v n xs hown hB (isJ_kids hi) hn (fun x hx => (h x hx).1) (fun x hx => lay_any k x.2 (h x hx).2)
theorem print_any (hN : ∀ k, JChk k (jN [49])) (k : Nat) (j : Ro) (hj : Jk k j) (hl : (prJ k j).length ≤ 1000000000) (Q : Nat → Prop) (w : World) (v : Value) (hi : Is .J Q w k j v) : Calls Tryz.prog 35 #[v] w fun e w' => e = .returned (.tuple #[.string (bs (prJ k j)), .int .i64 0]) ∧ Below w.heap.size w w' := by
  have HC : Hid (∀ w' : World, Below w.heap.size w w' → Calls Tryz.prog 62 #[v] w' fun e w2 => e = .returned (.int .i64 0) ∧ Below w'.heap.size w' w2) := Lib.hid (fun w' h => jchk_any hN k j hj Q w' v (hi.beyond h))
  have HL : Hid (∀ (w' : World), Below w.heap.size w w' → Calls Tryz.prog 63 #[.slice none 0 0, v] w' fun e w2 => ∃ g cap, e = .returned (.slice (some ⟨g, 0, none⟩) (prJ k j).length cap) ∧ Ow 5 w' w2 w'.heap.size (.slice none 0 0) (.slice (some ⟨g, 0, none⟩) (prJ k j).length cap) (prJ k j).length (cel (prJ k j))) := Lib.hid (fun w' h => (lay_any k j hj w'.heap.size w' (.slice none 0 0) v 0 [] (World.ownsRow_nil _ _ _ _) ((hi.beyond h).mono (fun b _ _ e => by cases e)) (by omega) (Nat.le_refl _)).mono (fun e w2 h => by obtain ⟨g, cap, h1, h2⟩ := h; rw [Nat.zero_add, List.nil_append] at h2; rw [Nat.zero_add] at h1; exact ⟨g, cap, h1, h2⟩))
  obtain ⟨ad, c, rfl⟩ := isJ_form hi
  obtain ⟨t, ht⟩ : ∃ t, prJ k j = t := ⟨_, rfl⟩
  rw [ht] at HL ⊢
  generalize j.o.kind = V1 at *
  generalize bs j.o.text = V2 at *
  generalize j.kids.length = V3 at *
  clear hi hj ht hl hN
  go_enter Tryz.func35, Tryz.ntmps35
  go_wp2_with fail
  with_reducible refine (HC.out _ bel).mono ?_
  rintro e w1 ⟨rfl, hb1⟩
  have c0 := cB hb1 w.heap.size 0 (.int .i64 V1)
  have c1 := cB hb1 w.heap.size 1 (.string V2)
  have c2 := cB hb1 w.heap.size 2 (.slice ad V3 c)
  have hw1 := bwB hb1 w.heap.size w
  have hlt1 : w.heap.size < w1.heap.size := by have := hb1.size; simp at this; omega
  clear hb1
  go_wp2_with fail
  with_reducible refine (HL.out _ hw1).mono ?_
  rintro e w2 ⟨g2, cap2, rfl, how2⟩
  have hw2 : Below w.heap.size w w2 := hw1.trans ((below_grown how2.grown).mono (by omega))
  have hcv := conv_back t how2.own (by rfl)
  clear how2
  go_wp2_with fail
  go_ret2
  exact ⟨rfl, hw2⟩
end
section
open Go.RowKit
theorem cText_yes (hN : ∀ k, JChk k (jN [49])) (i : Ro) (k : Nat) (l : KL) (Q : Nat → Prop) (w : World) (v : Value) (hd : Dk (k + 1) (vD l)) (hk : k ≤ 700) (h : Is .V Q w (k + 1) (vD l) v) (ho : okT (k + 1) [] (vD l) = true) (hp : cPl i k l)
    (hj : Jk (2 * k + 2) (jO (l.map fun x => (x.1, docJ i k x.2)))) (hl : (prJ (2 * k + 2) (jO (l.map fun x => (x.1, docJ i k x.2)))).length ≤ 1000000000) :
    Calls Tryz.prog 16 #[v] w fun e w' => e = .returned (.tuple #[.string (bs (prJ (2 * k + 2) (jO (l.map fun x => (x.1, docJ i k x.2))))), .agg #[.int .i64 0, .int .i64 0, .slice none 0 0]]) ∧ Below w.heap.size w w' := by
  have HJ := Lib.hid (fun w h => cJSON_yes i k l Q w v hd hk h ho hp)
  have HI := Lib.hid h
  obtain ⟨bv, s, rfl, ⟨bd, bc, rfl, _⟩, hk2⟩ := h
  obtain ⟨ad, c, rfl⟩ := hk2.slice
  change Calls _ _ #[.agg #[.int .i64 3, .int .u64 0, .int .u64 0, .int .u64 0, .string { data := #[] }, .string { data := #[] }, .int .i64 0, .slice bd 0 bc, .slice ad l.length c]] _ _
  replace HJ : Hid (∀ w, Is .V Q w (k + 1) (vD l) (.agg #[.int .i64 3, .int .u64 0, .int .u64 0, .int .u64 0, .string { data := #[] }, .string { data := #[] }, .int .i64 0, .slice bd 0 bc, .slice ad l.length c]) → Calls Tryz.prog 34 #[.agg #[.int .i64 3, .int .u64 0, .int .u64 0, .int .u64 0, .string { data := #[] }, .string { data := #[] }, .int .i64 0, .slice bd 0 bc, .slice ad l.length c]] w fun e w' => (∃ V, e = .returned (.tuple #[.agg #[.int .i64 7, .string { data := #[] }, V], .agg #[.int .i64 0, .int .i64 0, .slice none 0 0]]) ∧ Bd .J 166 w' w.heap.size (2 * k + 1) (l.map fun x => (x.1, docJ i k x.2)) V) ∧ Below w.heap.size w w') := HJ
  replace HI : Hid (Is .V Q w (k + 1) (vD l) (.agg #[.int .i64 3, .int .u64 0, .int .u64 0, .int .u64 0, .string { data := #[] }, .string { data := #[] }, .int .i64 0, .slice bd 0 bc, .slice ad l.length c])) := HI
  have HP : Hid (∀ (Q : Nat → Prop) (w : World) (v : Value), Is .J Q w (2 * k + 2) (jO (l.map fun x => (x.1, docJ i k x.2))) v → Calls Tryz.prog 35 #[v] w fun e w' => e = .returned (.tuple #[.string (bs (prJ (2 * k + 2) (jO (l.map fun x => (x.1, docJ i k x.2))))), .int .i64 0]) ∧ Below w.heap.size w w') := Lib.hid (fun Q w v h => print_any hN (2 * k + 2) _ hj hl Q w v h)
  obtain ⟨PT, hPT⟩ : ∃ t, bs (prJ (2 * k + 2) (jO (l.map fun x => (x.1, docJ i k x.2)))) = t := ⟨_, rfl⟩
  rw [hPT] at HP ⊢
  clear hk2 ho hd hj hl hp hN hPT
  generalize l.length = m at *
  go_enter Tryz.func16, Tryz.ntmps16
  go_wp2_with fail
  with_reducible refine (HJ.out _ ?hc2).mono ?_
  case hc2 => exact HI.out.beyond bel
  rintro e w1 ⟨⟨V, rfl, hV⟩, hb1⟩
  obtain ⟨c1_0, f1_0⟩ := cf hb1 (w.heap.size + 1) 0 (.int .i64 0)
  obtain ⟨c1_1, f1_1⟩ := cf hb1 (w.heap.size + 1) 1 (.int .i64 0)
  obtain ⟨c1_2, f1_2⟩ := cf hb1 (w.heap.size + 1) 2 (.slice none 0 0)
  have hl1_0 := ltB hb1 (w.heap.size + 1)
  have hw1 := bwB hb1 w.heap.size w
  have hz1 := hw1.size
  clear hb1
  obtain ⟨vd, vn, vc, rfl⟩ : ∃ vd vn vc, V = .slice vd vn vc := by
    obtain ⟨ad', c', hv⟩ := hV.done.slice
    exact ⟨_, _, _, hv⟩
  have hK : Hid (Kd .J (fun b => w.heap.size ≤ b) w1 (2 * k + 2) (l.map fun x => (x.1, docJ i k x.2)) (.slice vd vn vc)) := Lib.hid ((hV.low (base' := w.heap.size) (by simp; omega)).done)
  clear hV
  have hlx : w.heap.size < w1.heap.size := by omega
  go_wp2_with fail
  with_reducible refine (HP.out (fun b => w.heap.size ≤ b) _ _ ?hp1).mono ?_
  case hp1 => exact ⟨.slice none 0 0, _, rfl, True.intro, hK.out.beyond bel⟩
  rintro e w2 ⟨rfl, hb2⟩
  have hb12 := bwB hb2 w1.heap.size w1
  have c2_0 := (hb12.cell (p := ⟨w.heap.size + 1, 0, none⟩) hl1_0).trans c1_0
  have f2_0 := (hb12.frozen (p := ⟨w.heap.size + 1, 0, none⟩) hl1_0).trans f1_0
  have c2_1 := (hb12.cell (p := ⟨w.heap.size + 1, 1, none⟩) hl1_0).trans c1_1
  have f2_1 := (hb12.frozen (p := ⟨w.heap.size + 1, 1, none⟩) hl1_0).trans f1_1
  have c2_2 := (hb12.cell (p := ⟨w.heap.size + 1, 2, none⟩) hl1_0).trans c1_2
  have f2_2 := (hb12.frozen (p := ⟨w.heap.size + 1, 2, none⟩) hl1_0).trans f1_2
  have hl2 : w.heap.size + 1 < w2.heap.size := by have := hb12.size; omega
  have hw2 : Below w.heap.size w w2 := hw1.trans (hb12.mono (by omega))
  clear hb2 hb12
  go_wp2_with fail
  refine bodyPost_ret (v := .tuple #[.string PT, .agg #[.int .i64 0, .int .i64 0, .slice none 0 0]]) (by simp (maxDischargeDepth := 4) [results, Tryz.results16, go_sem, c2_0, f2_0, c2_1, f2_1, c2_2, f2_2]) rfl ?_
  exact ⟨rfl, bel⟩
theorem cText_no (k : Nat) (l : KL) (Q : Nat → Prop) (w : World) (v : Value) (hd : Dk (k + 1) (vD l)) (hk : k ≤ 700) (h : Is .V Q w (k + 1) (vD l) v) (ho : okT (k + 1) [] (vD l) = false) :
    Calls Tryz.prog 16 #[v] w fun e w' => (∃ qa qn qc, e = .returned (.tuple #[.string { data := #[] }, .agg #[.int .i64 4, .int .i64 0, .slice qa qn qc]])) ∧ Below w.heap.size w w' := by
  have HJ := Lib.hid (fun w h => cJSON_no k l Q w v hd hk h ho)
  have HI := Lib.hid h
  obtain ⟨bv, s, rfl, ⟨bd, bc, rfl, _⟩, hk2⟩ := h
  obtain ⟨ad, c, rfl⟩ := hk2.slice
  change Calls _ _ #[.agg #[.int .i64 3, .int .u64 0, .int .u64 0, .int .u64 0, .string { data := #[] }, .string { data := #[] }, .int .i64 0, .slice bd 0 bc, .slice ad l.length c]] _ _
  replace HJ : Hid (∀ w, Is .V Q w (k + 1) (vD l) (.agg #[.int .i64 3, .int .u64 0, .int .u64 0, .int .u64 0, .string { data := #[] }, .string { data := #[] }, .int .i64 0, .slice bd 0 bc, .slice ad l.length c]) → Calls Tryz.prog 34 #[.agg #[.int .i64 3, .int .u64 0, .int .u64 0, .int .u64 0, .string { data := #[] }, .string { data := #[] }, .int .i64 0, .slice bd 0 bc, .slice ad l.length c]] w fun e w' => (∃ qa qn qc, e = .returned (.tuple #[.agg #[.int .i64 0, .string { data := #[] }, .slice none 0 0], .agg #[.int .i64 4, .int .i64 0, .slice qa qn qc]])) ∧ Below w.heap.size w w') := HJ
  replace HI : Hid (Is .V Q w (k + 1) (vD l) (.agg #[.int .i64 3, .int .u64 0, .int .u64 0, .int .u64 0, .string { data := #[] }, .string { data := #[] }, .int .i64 0, .slice bd 0 bc, .slice ad l.length c])) := HI
  clear hk2 ho hd
  generalize l.length = m at *
  go_enter Tryz.func16, Tryz.ntmps16
  go_wp2_with fail
  with_reducible refine (HJ.out _ ?hc2).mono ?_
  case hc2 => exact HI.out.beyond bel
  rintro e w1 ⟨⟨qa, qn, qc, rfl⟩, hb1⟩
  obtain ⟨c1_0, f1_0⟩ := cf hb1 (w.heap.size + 1) 0 (.int .i64 0)
  obtain ⟨c1_1, f1_1⟩ := cf hb1 (w.heap.size + 1) 1 (.int .i64 0)
  obtain ⟨c1_2, f1_2⟩ := cf hb1 (w.heap.size + 1) 2 (.slice none 0 0)
  have hl1_0 := ltB hb1 (w.heap.size + 1)
  have hw1 := bwB hb1 w.heap.size w
  have hz1 := hw1.size
  clear hb1
  have hlx : w.heap.size < w1.heap.size := by omega
  have hly : w.heap.size ≠ w1.heap.size := by omega
  have hlz : w.heap.size + 1 ≠ w1.heap.size := by omega
  go_wp2_with fail
  go_region
  go_wp2_with fail
  refine bodyPost_ret (v := .tuple #[.string { data := #[] }, .agg #[.int .i64 4, .int .i64 0, .slice qa qn qc]]) (by simp (maxDischargeDepth := 4) [results, Tryz.results16, go_sem, c1_0, f1_0, c1_1, f1_1, c1_2, f1_2, hl1_0, hlx, hly, hlz]) rfl ?_
  exact ⟨⟨_, _, _, rfl⟩, bel⟩
theorem xText_yes (hN : ∀ k, JChk k (jN [49])) (i : Ro) (k : Nat) (l : KL) (Q : Nat → Prop) (w : World) (v : Value) (hd : Dk (k + 1) (vD l)) (hk : k ≤ 700) (h : Is .V Q w (k + 1) (vD l) v) (ho : okT (k + 1) [] (vD l) = true) (hp : xPl i k l)
    (hj : Jk (2 * k + 2) (jO (l.map fun x => (x.1, docJ i k x.2)))) (hl : (prJ (2 * k + 2) (jO (l.map fun x => (x.1, docJ i k x.2)))).length ≤ 1000000000) :
    Calls Tryz.prog 17 #[v] w fun e w' => e = .returned (.tuple #[.string (bs (prJ (2 * k + 2) (jO (l.map fun x => (x.1, docJ i k x.2))))), .agg #[.int .i64 0, .int .i64 0, .slice none 0 0]]) ∧ Below w.heap.size w w' := by
  have HJ := Lib.hid (fun w h => xJSON_yes i k l Q w v hd hk h ho hp)
  have HI := Lib.hid h
  obtain ⟨bv, s, rfl, ⟨bd, bc, rfl, _⟩, hk2⟩ := h
  obtain ⟨ad, c, rfl⟩ := hk2.slice
  change Calls _ _ #[.agg #[.int .i64 3, .int .u64 0, .int .u64 0, .int .u64 0, .string { data := #[] }, .string { data := #[] }, .int .i64 0, .slice bd 0 bc, .slice ad l.length c]] _ _
  replace HJ : Hid (∀ w, Is .V Q w (k + 1) (vD l) (.agg #[.int .i64 3, .int .u64 0, .int .u64 0, .int .u64 0, .string { data := #[] }, .string { data := #[] }, .int .i64 0, .slice bd 0 bc, .slice ad l.length c]) → Calls Tryz.prog 36 #[.agg #[.int .i64 3, .int .u64 0, .int .u64 0, .int .u64 0, .string { data := #[] }, .string { data := #[] }, .int .i64 0, .slice bd 0 bc, .slice ad l.length c]] w fun e w' => (∃ V, e = .returned (.tuple #[.agg #[.int .i64 7, .string { data := #[] }, V], .agg #[.int .i64 0, .int .i64 0, .slice none 0 0]]) ∧ Bd .J 166 w' w.heap.size (2 * k + 1) (l.map fun x => (x.1, docJ i k x.2)) V) ∧ Below w.heap.size w w') := HJ
  replace HI : Hid (Is .V Q w (k + 1) (vD l) (.agg #[.int .i64 3, .int .u64 0, .int .u64 0, .int .u64 0, .string { data := #[] }, .string { data := #[] }, .int .i64 0, .slice bd 0 bc, .slice ad l.length c])) := HI
  have HP : Hid (∀ (Q : Nat → Prop) (w : World) (v : Value), Is .J Q w (2 * k + 2) (jO (l.map fun x => (x.1, docJ i k x.2))) v → Calls Tryz.prog 35 #[v] w fun e w' => e = .returned (.tuple #[.string (bs (prJ (2 * k + 2) (jO (l.map fun x => (x.1, docJ i k x.2))))), .int .i64 0]) ∧ Below w.heap.size w w') := Lib.hid (fun Q w v h => print_any hN (2 * k + 2) _ hj hl Q w v h)
  obtain ⟨PT, hPT⟩ : ∃ t, bs (prJ (2 * k + 2) (jO (l.map fun x => (x.1, docJ i k x.2)))) = t := ⟨_, rfl⟩
  rw [hPT] at HP ⊢
  clear hk2 ho hd hj hl hp hN hPT
  generalize l.length = m at *
  go_enter Tryz.func17, Tryz.ntmps17
  go_wp2_with fail
  with_reducible refine (HJ.out _ ?hc2).mono ?_
  case hc2 => exact HI.out.beyond bel
  rintro e w1 ⟨⟨V, rfl, hV⟩, hb1⟩
  obtain ⟨c1_0, f1_0⟩ := cf hb1 (w.heap.size + 1) 0 (.int .i64 0)
  obtain ⟨c1_1, f1_1⟩ := cf hb1 (w.heap.size + 1) 1 (.int .i64 0)
  obtain ⟨c1_2, f1_2⟩ := cf hb1 (w.heap.size + 1) 2 (.slice none 0 0)
  have hl1_0 := ltB hb1 (w.heap.size + 1)
  have hw1 := bwB hb1 w.heap.size w
  have hz1 := hw1.size
  clear hb1
  obtain ⟨vd, vn, vc, rfl⟩ : ∃ vd vn vc, V = .slice vd vn vc := by
    obtain ⟨ad', c', hv⟩ := hV.done.slice
    exact ⟨_, _, _, hv⟩
  have hK : Hid (Kd .J (fun b => w.heap.size ≤ b) w1 (2 * k + 2) (l.map fun x => (x.1, docJ i k x.2)) (.slice vd vn vc)) := Lib.hid ((hV.low (base' := w.heap.size) (by simp; omega)).done)
  clear hV
  have hlx : w.heap.size < w1.heap.size := by omega
  go_wp2_with fail
  with_reducible refine (HP.out (fun b => w.heap.size ≤ b) _ _ ?hp1).mono ?_
  case hp1 => exact ⟨.slice none 0 0, _, rfl, True.intro, hK.out.beyond bel⟩
  rintro e w2 ⟨rfl, hb2⟩
  have hb12 := bwB hb2 w1.heap.size w1
  have c2_0 := (hb12.cell (p := ⟨w.heap.size + 1, 0, none⟩) hl1_0).trans c1_0
  have f2_0 := (hb12.frozen (p := ⟨w.heap.size + 1, 0, none⟩) hl1_0).trans f1_0
  have c2_1 := (hb12.cell (p := ⟨w.heap.size + 1, 1, none⟩) hl1_0).trans c1_1
  have f2_1 := (hb12.frozen (p := ⟨w.heap.size + 1, 1, none⟩) hl1_0).trans f1_1
  have c2_2 := (hb12.cell (p := ⟨w.heap.size + 1, 2, none⟩) hl1_0).trans c1_2
  have f2_2 := (hb12.frozen (p := ⟨w.heap.size + 1, 2, none⟩) hl1_0).trans f1_2
  have hl2 : w.heap.size + 1 < w2.heap.size := by have := hb12.size; omega
  have hw2 : Below w.heap.size w w2 := hw1.trans (hb12.mono (by omega))
  clear hb2 hb12
  go_wp2_with fail
  refine bodyPost_ret (v := .tuple #[.string PT, .agg #[.int .i64 0, .int .i64 0, .slice none 0 0]]) (by simp (maxDischargeDepth := 4) [results, Tryz.results17, go_sem, c2_0, f2_0, c2_1, f2_1, c2_2, f2_2]) rfl ?_
  exact ⟨rfl, bel⟩
theorem xText_no (k : Nat) (l : KL) (Q : Nat → Prop) (w : World) (v : Value) (hd : Dk (k + 1) (vD l)) (hk : k ≤ 700) (h : Is .V Q w (k + 1) (vD l) v) (ho : okT (k + 1) [] (vD l) = false) :
    Calls Tryz.prog 17 #[v] w fun e w' => (∃ qa qn qc, e = .returned (.tuple #[.string { data := #[] }, .agg #[.int .i64 4, .int .i64 0, .slice qa qn qc]])) ∧ Below w.heap.size w w' := by
  have HJ := Lib.hid (fun w h => xJSON_no k l Q w v hd hk h ho)
  have HI := Lib.hid h
  obtain ⟨bv, s, rfl, ⟨bd, bc, rfl, _⟩, hk2⟩ := h
  obtain ⟨ad, c, rfl⟩ := hk2.slice
  change Calls _ _ #[.agg #[.int .i64 3, .int .u64 0, .int .u64 0, .int .u64 0, .string { data := #[] }, .string { data := #[] }, .int .i64 0, .slice bd 0 bc, .slice ad l.length c]] _ _
  replace HJ : Hid (∀ w, Is .V Q w (k + 1) (vD l) (.agg #[.int .i64 3, .int .u64 0, .int .u64 0, .int .u64 0, .string { data := #[] }, .string { data := #[] }, .int .i64 0, .slice bd 0 bc, .slice ad l.length c]) → Calls Tryz.prog 36 #[.agg #[.int .i64 3, .int .u64 0, .int .u64 0, .int .u64 0, .string { data := #[] }, .string { data := #[] }, .int .i64 0, .slice bd 0 bc, .slice ad l.length c]] w fun e w' => (∃ qa qn qc, e = .returned (.tuple #[.agg #[.int .i64 0, .string { data := #[] }, .slice none 0 0], .agg #[.int .i64 4, .int .i64 0, .slice qa qn qc]])) ∧ Below w.heap.size w w') := HJ
  replace HI : Hid (Is .V Q w (k + 1) (vD l) (.agg #[.int .i64 3, .int .u64 0, .int .u64 0, .int .u64 0, .string { data := #[] }, .string { data := #[] }, .int .i64 0, .slice bd 0 bc, .slice ad l.length c])) := HI
  clear hk2 ho hd
  generalize l.length = m at *
  go_enter Tryz.func17, Tryz.ntmps17
  go_wp2_with fail
  with_reducible refine (HJ.out _ ?hc2).mono ?_
  case hc2 => exact HI.out.beyond bel
  rintro e w1 ⟨⟨qa, qn, qc, rfl⟩, hb1⟩
  obtain ⟨c1_0, f1_0⟩ := cf hb1 (w.heap.size + 1) 0 (.int .i64 0)
  obtain ⟨c1_1, f1_1⟩ := cf hb1 (w.heap.size + 1) 1 (.int .i64 0)
  obtain ⟨c1_2, f1_2⟩ := cf hb1 (w.heap.size + 1) 2 (.slice none 0 0)
  have hl1_0 := ltB hb1 (w.heap.size + 1)
  have hw1 := bwB hb1 w.heap.size w
  have hz1 := hw1.size
  clear hb1
  have hlx : w.heap.size < w1.heap.size := by omega
  have hly : w.heap.size ≠ w1.heap.size := by omega
  have hlz : w.heap.size + 1 ≠ w1.heap.size := by omega
  go_wp2_with fail
  go_region
  go_wp2_with fail
  refine bodyPost_ret (v := .tuple #[.string { data := #[] }, .agg #[.int .i64 4, .int .i64 0, .slice qa qn qc]]) (by simp (maxDischargeDepth := 4) [results, Tryz.results17, go_sem, c1_0, f1_0, c1_1, f1_1, c1_2, f1_2, hl1_0, hlx, hly, hlz]) rfl ?_
  exact ⟨⟨_, _, _, rfl⟩, bel⟩
end
section
open Go.RowKit
theorem lone_is (x : List UInt8) (Q : Nat → Prop) (W : World) (B : Nat) (bd ad : Option Addr) (bc c : Nat) (hQ : Q B) (hB : B < W.heap.size)
    (h : W.rangeAt B 0 [.string { data := #[] }, .int .i64 2, .int .u64 0, .int .u64 0, .int .u64 0, .string (bs x), .string { data := #[] }, .int .i64 0, .slice bd 0 bc, .slice ad 0 c]) :
    Is .V Q W 1 (vD [([], vS x)]) (.agg #[.int .i64 3, .int .u64 0, .int .u64 0, .int .u64 0, .string { data := #[] }, .string { data := #[] }, .int .i64 0, .slice none 0 0, .slice (some ⟨B, 0, none⟩) 1 1]) := by
  refine ⟨.slice none 0 0, .slice (some ⟨B, 0, none⟩) 1 1, rfl, By.nil _ _, some ⟨B, 0, none⟩, 1, rfl, fun i nm y hi => ?_⟩
  cases i with
  | succ i => simp [vD] at hi
  | zero =>
    have e : (([] : List UInt8), vS x) = (nm, y) := Option.some.inj hi
    injection e with e1 e2
    subst e1 e2
    exact ⟨B, 0, .slice bd 0 bc, .slice ad 0 c, rfl, hQ, hB, h, ⟨bd, bc, rfl, .inl rfl⟩, Kd.nil _ _ _ _ _ _⟩
theorem last3 (w : World) (o1 o2 o3 : Obj) : (((w.alloc o1).alloc o2).alloc o3).heap[w.heap.size + 2]? = some o3 := by
  have h := heap_alloc_last ((w.alloc o1).alloc o2) o3
  have e : ((w.alloc o1).alloc o2).heap.size = w.heap.size + 2 := by simp
  rw [e] at h
  exact h
theorem wh_nm : Nm [] := by decide
theorem lone_ok (x : List UInt8) (hw : Wh x) : okT 1 [] (vD [([], vS x)]) = true := by
  have h0 : Wh [] := wh_nil
  simp [okT, vD, vS, oS, oD, wh_nm, h0, hw]
theorem xval_S (i : Ro) (k : Nat) (x : List UInt8) (hx : x.length ≤ 200) (hw : Wh x) : xVal i k (vS x) := fun Q w v h => by
  obtain ⟨bv, s, rfl, ⟨bd, bc, rfl, _⟩, hk⟩ := h
  obtain ⟨ad, c, rfl⟩ := hk.slice
  clear hk
  rw [docJ_vS]
  have HJ : Hid (∀ W : World, W.heap.size = w.heap.size + 3 → W.rangeAt (w.heap.size + 2) 0 [.string { data := #[] }, .int .i64 2, .int .u64 0, .int .u64 0, .int .u64 0, .string (bs x), .string { data := #[] }, .int .i64 0, .slice bd 0 bc, .slice ad 0 c] → Calls Tryz.prog 34 #[.agg #[.int .i64 3, .int .u64 0, .int .u64 0, .int .u64 0, .string { data := #[] }, .string { data := #[] }, .int .i64 0, .slice none 0 0, .slice (some ⟨w.heap.size + 2, 0, none⟩) 1 1]] W fun e w' => (∃ V, e = .returned (.tuple #[.agg #[.int .i64 7, .string { data := #[] }, V], .agg #[.int .i64 0, .int .i64 0, .slice none 0 0]]) ∧ Bd .J 166 w' W.heap.size 1 [([], jS x)] V) ∧ Below W.heap.size W w') := Lib.hid (fun W hW hr => by
    have h := cJSON_yes i 0 [([], vS x)] (fun _ => True) W _ (.inr ⟨_, .inl rfl, by simp, fun y hy => by rcases List.mem_singleton.1 hy with rfl; exact ⟨Nat.zero_le _, .inl ⟨x, hx, rfl⟩⟩⟩) (by omega) (lone_is x _ W (w.heap.size + 2) bd ad bc c True.intro (by omega) hr) (lone_ok x hw) (cpl_any (by simp) (fun y hy => by rcases List.mem_singleton.1 hy with rfl; exact cval_S i 0 x))
    exact h)
  show Calls Tryz.prog 109 #[.agg #[.int .i64 2, .int .u64 0, .int .u64 0, .int .u64 0, .string (bs x), .string { data := #[] }, .int .i64 0, .slice bd 0 bc, .slice ad 0 c]] w fun e w' => (∃ jv, e = .returned jv ∧ Is .J (fun b => w.heap.size ≤ b) w' (2 * k + 1) (jS x) jv) ∧ Below w.heap.size w w'
  have HS : Hid (∀ (w' : World) (sd : Option Addr) (sc : Nat), Is .J (fun b => w.heap.size ≤ b) w' (2 * k + 1) (jS x) (.agg #[.int .i64 5, .string (bs x), .slice sd 0 sc])) := Lib.hid (fun w' sd sc => ⟨.slice none 0 0, .slice sd 0 sc, rfl, True.intro, Kd.nil _ _ _ _ _ _⟩)
  have HB : Hid (∀ (w1 : World) (B : Nat) (V : Value), Bd .J 166 w1 B 1 [([], jS x)] V → ∃ g cap sd sc, V = .slice (some ⟨g, 0, none⟩) 1 cap ∧ B ≤ g ∧ g < w1.heap.size ∧ w1.cell? ⟨g, 1, none⟩ = some (.int .i64 5) ∧ w1.cell? ⟨g, 2, none⟩ = some (.string (bs x)) ∧ w1.cell? ⟨g, 3, none⟩ = some (.slice sd 0 sc)) := Lib.hid (fun w1 B V hV => by
    obtain ⟨ad', c', rfl⟩ := hV.done.slice
    obtain ⟨g, rfl, hg⟩ := bd_head hV (by simp)
    obtain ⟨b, o, bv, s, hbo, hqb, hbl, hra, hby, hkd⟩ := hV.done.at (i := 0) (nm := []) (x := jS x) rfl
    injection hbo with hbo
    injection hbo with e1 e2
    subst e1 e2
    obtain ⟨sd, sc, rfl⟩ := hkd.slice
    obtain ⟨r0, r1, r2, r3⟩ := rowJ (K := 0) hra
    exact ⟨g, c', sd, sc, rfl, hg, hbl, r1, r2, r3⟩)
  generalize bs x = T0 at *
  go_enter Tryz.func109, Tryz.ntmps109
  go_wp2_with fail
  with_reducible refine (HJ.out _ ?hj1 ?hj2).mono ?_
  case hj1 => simp
  case hj2 =>
    intro j u hu
    rw [Nat.zero_add, cell_of_row _ _ j _ _ _ (last3 w _ _ _)]
    simpa using hu
  rintro e w1 ⟨⟨V, rfl, hV⟩, hb1⟩
  obtain ⟨c1_0, f1_0⟩ := cf hb1 (w.heap.size + 1) 0 (.int .i64 0)
  obtain ⟨c1_1, f1_1⟩ := cf hb1 (w.heap.size + 1) 1 (.string { data := #[] })
  obtain ⟨c1_2, f1_2⟩ := cf hb1 (w.heap.size + 1) 2 (.slice none 0 0)
  have hl1_0 := ltB hb1 (w.heap.size + 1)
  have hw1 := bwB hb1 w.heap.size w
  have hz1 := hw1.size
  clear hb1
  obtain ⟨g, cap, sd, sc, rfl, hBg, hgl, g1, g2, g3⟩ := HB.out _ _ _ hV
  clear hV
  have hlx : w.heap.size < w1.heap.size := by omega
  have hly : w.heap.size ≠ w1.heap.size := by omega
  have hlz : w.heap.size + 1 ≠ w1.heap.size := by omega
  go_wp2_with fail
  refine bodyPost_ret (v := .agg #[.int .i64 5, .string T0, .slice sd 0 sc]) (by simp (maxDischargeDepth := 4) [results, Tryz.results109, go_sem, c1_0, c1_1, c1_2, f1_0, f1_1, f1_2, hl1_0, hlx, hly, hlz]) rfl ?_
  exact ⟨⟨_, rfl, HS.out _ _ _⟩, bel⟩
theorem okT_wh {k : Nat} {nm : List UInt8} {t : Ro} (h : okT k nm t = true) : Wh t.o.text := by
  cases k with
  | zero => simp only [okT, Bool.and_eq_true, decide_eq_true_eq] at h; exact h.2
  | succ k => simp only [okT, Bool.and_eq_true, decide_eq_true_eq] at h; exact h.1.2
theorem xval_any (i : Ro) (hi : ∀ k, xVal i k vI) : ∀ (k : Nat) (nm : List UInt8) (t : Ro), Dk k t → okT k nm t = true → xVal i k t
  | 0, nm, t, h, ho => by
    rcases h with ⟨x, hx, rfl⟩ | rfl
    · exact xval_S i 0 x hx (okT_wh ho)
    · exact hi 0
  | k + 1, nm, t, h, ho => by
    rcases h with (⟨x, hx, rfl⟩ | rfl) | ⟨l, rfl | rfl, hl, h⟩
    · exact xval_S i _ x hx (okT_wh ho)
    · exact hi _
    · have ho2 : ∀ x ∈ l, okT k x.1 x.2 = true := fun x hx => by simp [okT, vD] at ho; exact ho.2 x.1 x.2 hx
      exact xval_D hl (fun x hx => xval_any i hi k x.1 x.2 (h x hx).2 (ho2 x hx))
    · have ho2 : ∀ x ∈ l, okT k x.1 x.2 = true := fun x hx => by simp [okT, vA] at ho; exact ho.2 x.1 x.2 hx
      exact xval_A hl (fun x hx => xval_any i hi k x.1 x.2 (h x hx).2 (ho2 x hx))
end
end Go.Proofs.YtihnfhhopldllaaGreatDoor
