/- Parts of the proof of TopLooks: U94. No condition. -/
import Derived.Test.YtihnfhhopldllaaGreatDoorJ1
import Derived.Test.YtihnfhhopldllaaGreatDoorJ12
import Derived.Test.YtihnfhhopldllaaGreatDoorJ40
import Derived.Test.YtihnfhhopldllaaGreatDoorJ47
import Derived.Test.YtihnfhhopldllaaGreatDoorJ9
namespace Go.Proofs.YtihnfhhopldllaaGreatDoor
set_option linter.unusedSimpArgs false
set_option linter.unusedVariables false
set_option maxHeartbeats 6400000
set_option maxRecDepth 100000
section
open Go.RowKit
theorem dollar_bs (s : ByteArray) : (ByteArray.mk #[36]) ++ s = bs (36 :: s.data.toList) := by
  apply ByteArray.ext
  rw [ByteArray.data_append]
  simp [bs]
theorem topLooks_walk (s0 s1 : ByteArray) (ad : Option Addr) (n c : Nat) (f : Nat → ByteArray) (w : World) (h0 : s0.size ≤ maxLen) (h1 : s1.size ≤ maxLen) (hS : Ss w ad n f) (hn : n ≤ maxLen) (hf : ∀ i, i < n → (f i).size ≤ maxLen) :
    Calls Tryz.prog 5 #[.string s0, .string s1, .slice ad n c] w fun e w' => e = .returned (.bool true) ∧ Below w.heap.size w w' := by
  have HA := Lib.hid awake_top
  have HS := Lib.hid hS
  clear hS hn hf h0 h1
  by_cases c0 : (60 : Int) < s0.size
  · go_enter Tryz.func5, Tryz.ntmps5
    go_wp2_with fail
    with_reducible refine (HA.out _).mono ?_
    rintro e w1 ⟨rfl, hb1⟩
    have hw1 := bwB hb1 w.heap.size w
    have hz1 := hw1.size
    clear hb1
    go_wp2_with fail
    go_ret
    exact ⟨rfl, hw1⟩
  by_cases c1 : (60 : Int) < s1.size
  · go_enter Tryz.func5, Tryz.ntmps5
    go_wp2_with fail
    with_reducible refine (HA.out _).mono ?_
    rintro e w1 ⟨rfl, hb1⟩
    have hw1 := bwB hb1 w.heap.size w
    have hz1 := hw1.size
    clear hb1
    go_wp2_with fail
    go_ret
    exact ⟨rfl, hw1⟩
  by_cases c2 : (10 : Int) < n
  · go_enter Tryz.func5, Tryz.ntmps5
    go_wp2_with fail
    with_reducible refine (HA.out _).mono ?_
    rintro e w1 ⟨rfl, hb1⟩
    have hw1 := bwB hb1 w.heap.size w
    have hz1 := hw1.size
    clear hb1
    go_wp2_with fail
    go_ret
    exact ⟨rfl, hw1⟩
  have hn10 : n ≤ 10 := by omega
  obtain ⟨S2, hS2⟩ : ∃ S, S = (ByteArray.mk #[36]) ++ s0 := ⟨_, rfl⟩
  have hcat := hS2.symm
  have HS2 := Lib.hid hS2
  clear hS2
  obtain ⟨L, hL⟩ : ∃ L, L = arrK s0.data.toList s1.data.toList (nmL f n) := ⟨_, rfl⟩
  have HL := Lib.hid hL
  have HLK : Hid (∀ K, K < n → L[K]? = some ((f K).data.toList, lkT s0.data.toList s1.data.toList)) := Lib.hid (fun K hK => by rw [hL]; exact arrK_at hK)
  clear hL
  obtain ⟨i0, hi, iz0, iz1, iz2⟩ := hi_field
  go_enter Tryz.func5, Tryz.ntmps5
  go_wp2_with fail
  with_reducible refine (HA.out _).mono ?_
  rintro e w1 ⟨rfl, hb1⟩
  have hw1 := bwB hb1 w.heap.size w
  have hz1 := hw1.size
  clear hb1
  go_wp2_with fail
  have hz3 : w1.heap.size + 1 + 1 < w1.heap.size + 1 + 1 + 1 := by omega
  go_loopw [9] (fun x wr => ∃ K V, K ≤ n ∧ x = .int .i64 K ∧ w1.heap.size + 1 + 1 + 1 ≤ wr.heap.size ∧ Hid (∀ i, i < K → (f i).size ≤ 60) ∧ (wr.cell? ⟨w1.heap.size + 1, 0, none⟩ = some (.int .i64 3) ∧ wr.cell? ⟨w1.heap.size + 1, 1, none⟩ = some (.int .u64 0) ∧ wr.cell? ⟨w1.heap.size + 1, 2, none⟩ = some (.int .u64 0) ∧ wr.cell? ⟨w1.heap.size + 1, 3, none⟩ = some (.int .u64 0) ∧ wr.cell? ⟨w1.heap.size + 1, 4, none⟩ = some (.string { data := #[] }) ∧ wr.cell? ⟨w1.heap.size + 1, 5, none⟩ = some (.string { data := #[] }) ∧ wr.cell? ⟨w1.heap.size + 1, 6, none⟩ = some (.int .i64 0) ∧ wr.cell? ⟨w1.heap.size + 1, 7, none⟩ = some (.slice none 0 0) ∧ wr.cell? ⟨w1.heap.size + 1, 8, none⟩ = some (.slice (some ⟨w1.heap.size, 0, none⟩) 1 1) ∧ wr.cell? ⟨w1.heap.size + 1 + 1, 0, none⟩ = some (.int .i64 4) ∧ wr.cell? ⟨w1.heap.size + 1 + 1, 1, none⟩ = some (.int .u64 0) ∧ wr.cell? ⟨w1.heap.size + 1 + 1, 2, none⟩ = some (.int .u64 0) ∧ wr.cell? ⟨w1.heap.size + 1 + 1, 3, none⟩ = some (.int .u64 0) ∧ wr.cell? ⟨w1.heap.size + 1 + 1, 4, none⟩ = some (.string { data := #[] }) ∧ wr.cell? ⟨w1.heap.size + 1 + 1, 5, none⟩ = some (.string { data := #[] }) ∧ wr.cell? ⟨w1.heap.size + 1 + 1, 6, none⟩ = some (.int .i64 0) ∧ wr.cell? ⟨w1.heap.size + 1 + 1, 7, none⟩ = some (.slice none 0 0) ∧ wr.cell? ⟨w1.heap.size + 1 + 1, 8, none⟩ = some (V) ∧ wr.frozen? ⟨w1.heap.size + 1 + 1, 8, none⟩ = false) ∧ Hid (wr.rangeAt w1.heap.size 0 [.string S2, .int .i64 2, .int .u64 0, .int .u64 0, .int .u64 0, .string s1, .string { data := #[] }, .int .i64 0, .slice none 0 0, .slice none 0 0]) ∧ Hid (wr.ownsRow (w1.heap.size + 1 + 1 + 1) 51 10 V K (flat .V (L.take K) (lkS w1.heap.size K))) ∧ Hid (Below w.heap.size w wr)) (fun x _ => n - (intOf x).toNat)
  case atStart =>
    refine ⟨0, .slice none 0 0, Nat.zero_le _, rfl, ?hq, Lib.hid (fun i hi => absurd hi (Nat.not_lt_zero i)), ⟨?_, ?_, ?_, ?_, ?_, ?_, ?_, ?_, ?_, ?_, ?_, ?_, ?_, ?_, ?_, ?_, ?_, ?_, ?_⟩, Lib.hid (range_of ((Below.heap_alloc _ _ _ (by simp; omega)).trans ((Below.heap_alloc _ _ _ (by simp)).trans (heap_alloc_last w1 _)))), Lib.hid (World.ownsRow_nil _ _ _ _), Lib.hid ?hb⟩
    case hq => simp
    case hb => exact bel
    all_goals first | (simp [go_sem]; done) | (simp [go_sem, *]; done)
  case round =>
    obtain ⟨K, V, hK, rfl, hzr, HF, ⟨b0, b1, b2, b3, b4, b5, b6, b7, b8, c0, c1, c2, c3, c4, c5, c6, c7, c8, cf⟩, HR, HO, HW⟩ := hrel
    have hVg := World.ownsRow.lt HO.out
    by_cases hKn : K < n
    · obtain ⟨a, rfl, hal, hac⟩ := HS.out.beyond HW.out K hKn
      have hKi : (K : Int) < n := by omega
      have hr0 : w1.heap.size < wr.heap.size := by omega
      have hr1 : w1.heap.size + 1 < wr.heap.size := by omega
      have hr2 : w1.heap.size + 1 + 1 < wr.heap.size := by omega
      by_cases d3 : (60 : Int) < (f K).size
      · go_wp2_with fail
        go_ret
        exact ⟨rfl, HW.out⟩
      · go_upto_region 12 with fail
        apply cut_once (fun w7 g7 cap7 => w7.ownsRow (w1.heap.size + 1 + 1 + 1) 51 10 (.slice (some ⟨g7, 0, none⟩) (K + 1) cap7) (K + 1) (flat .V (L.take K) (lkS w1.heap.size K) ++ [.string (f K), .int .i64 3, .int .u64 0, .int .u64 0, .int .u64 0, .string { data := #[] }, .string { data := #[] }, .int .i64 0, .slice none 0 0, .slice (some ⟨w1.heap.size, 0, none⟩) 1 1]) ∧ ∃ W, Below wr.heap.size wr W ∧ W.grownBy w7 V.ownBlock)
        case key =>
          intro key
          go_region_law (refine step_append_lies _ rfl _ _ _ rfl (w1.heap.size + 1 + 1 + 1) 51 i0 _ 10 136 Tryz.underlying37 hi iz0 iz1 iz2 rfl (by decide) V K (flat .V (L.take K) (lkS w1.heap.size K)) evl (World.ownsRow.alloc HO.out _) ⟨wr.heap.size, 0, none⟩ 1 1 [.string (f K), .int .i64 3, .int .u64 0, .int .u64 0, .int .u64 0, .string { data := #[] }, .string { data := #[] }, .int .i64 0, .slice none 0 0, .slice (some ⟨w1.heap.size, 0, none⟩) 1 1] evl rfl ?c1 ?c2 (by decide) ?c3 ?c4 ?c5 _ rfl ?_; (case c1 => exact World.news_of_block (cs := #[.string (f K), .int .i64 3, .int .u64 0, .int .u64 0, .int .u64 0, .string { data := #[] }, .string { data := #[] }, .int .i64 0, .slice none 0 0, .slice (some ⟨w1.heap.size, 0, none⟩) 1 1]) (heap_alloc_last wr _)); (case c2 => exact mem10_one); (case c3 => (unfold maxLen; omega)); (case c4 => omega); (case c5 => (simp; omega)); intro g7 cap7 w7 hown7 hgrow7 hat7 hlt7; have k8 : w7.cell? ⟨w1.heap.size + 1 + 1, 8, none⟩ = some V := (row_cell hgrow7 (b := w1.heap.size + 1 + 1) (i := 8) (by simp; omega) (fun e => by have := hVg _ e; omega)).trans (by simp [go_sem, *]); have kf := rF hgrow7 (w1.heap.size + 1 + 1) 8 (fun e => by have := hVg _ e; omega))
          all_goals (refine key w7 g7 cap7 ⟨hown7, _, ?_, hgrow7⟩; exact bel)
        case pf =>
          rintro w7 g7 cap7 ⟨hown7, Wo, hbo, hgrow7⟩
          have hb7 : Below (w1.heap.size + 1 + 1 + 1) wr w7 := Below.grown (hbo.mono hzr) hgrow7 (by have := hbo.size; omega) (fun k hk => (hVg k hk).1)
          have hz7 := hb7.size
          have hg7 := World.ownsRow.lt hown7 g7 rfl
          have xb0 := cT hb7 b0
          have xb1 := cT hb7 b1
          have xb2 := cT hb7 b2
          have xb3 := cT hb7 b3
          have xb4 := cT hb7 b4
          have xb5 := cT hb7 b5
          have xb6 := cT hb7 b6
          have xb7 := cT hb7 b7
          have xb8 := cT hb7 b8
          have xc0 := cT hb7 c0
          have xc1 := cT hb7 c1
          have xc2 := cT hb7 c2
          have xc3 := cT hb7 c3
          have xc4 := cT hb7 c4
          have xc5 := cT hb7 c5
          have xc6 := cT hb7 c6
          have xc7 := cT hb7 c7
          have xc8 := cT hb7 c8
          have xcf := fT hb7 cf
          have hl7 : w1.heap.size + 1 + 1 < w7.heap.size := by omega
          have HO7 : Hid (w7.ownsRow (w1.heap.size + 1 + 1 + 1) 51 10 (.slice (some ⟨g7, 0, none⟩) (K + 1) cap7) (K + 1) (flat .V (L.take (K + 1)) (lkS w1.heap.size (K + 1)))) := Lib.hid (by
            rw [HL.out, flat_more (nm' := (f K).data.toList) (x := lkT s0.data.toList s1.data.toList) (by rw [← HL.out]; exact HLK.out K hKn), ← HL.out]
            have e : Lay.row .V (f K).data.toList (lkT s0.data.toList s1.data.toList).o (.slice none 0 0) (.slice (some ⟨w1.heap.size, 0, none⟩) 1 1) = [.string (f K), .int .i64 3, .int .u64 0, .int .u64 0, .int .u64 0, .string { data := #[] }, .string { data := #[] }, .int .i64 0, .slice none 0 0, .slice (some ⟨w1.heap.size, 0, none⟩) 1 1] := by rw [Lay.row, bs_of]; rfl
            rw [e]
            exact hown7)
          have HR7 := Lib.hid (rangeAt_block (hb7.block _ (by omega)) HR.out)
          have HW7 : Hid (Below w.heap.size w w7) := Lib.hid (HW.out.trans (hb7.mono (by omega)))
          clear hown7 hgrow7 hb7
          go_wp2_with fail
          go_roundw
          case rel =>
            refine ⟨K + 1, .slice (some ⟨g7, 0, none⟩) (K + 1) cap7, by omega, by go_num, ?hq, Lib.hid (fun i hi => ?hf), ⟨?_, ?_, ?_, ?_, ?_, ?_, ?_, ?_, ?_, ?_, ?_, ?_, ?_, ?_, ?_, ?_, ?_, ?_, ?_⟩, Lib.hid (rangeAt_block (heap_setCell_other _ _ _ _ (by dsimp only; omega)) HR7.out), Lib.hid (ownsRow_keeps HO7.out (fun g hg => ?ho)), Lib.hid (HW7.out.setCell (by dsimp only; omega) _)⟩
            case hq => (simp; omega)
            case hf =>
              rcases Nat.lt_or_ge i K with h | h
              · exact HF.out i h
              · have : i = K := by omega
                subst this
                omega
            case ho =>
              have e : g7 = g := Option.some.inj hg
              subst e
              exact heap_setCell_other _ _ _ _ (by dsimp only; omega)
            all_goals first | (simp [go_sem, *]; done) | (simp; omega)
          case measure => simp [intOf]; omega
    · have hKe : K = n := by omega
      subst hKe
      obtain ⟨vd, vc, rfl⟩ := own_form HO.out
      have hLK : (nmL f K).length = K := nmL_len f K
      have HO2 : Hid (wr.ownsRow (w1.heap.size + 1 + 1 + 1) 51 10 (.slice vd K vc) K (flat .V (arrK s0.data.toList s1.data.toList (nmL f K)) (lkS w1.heap.size K))) := Lib.hid (by
        have h := HO.out
        rw [HL.out, List.take_of_length_le (by rw [arrK_len, hLK]; omega)] at h
        exact h)
      have hnm : s0.data.toList.length ≤ 60 := by
        have e : s0.data.toList.length = s0.size := Array.length_toList
        omega
      have htx : s1.data.toList.length ≤ 60 := by
        have e : s1.data.toList.length = s1.size := Array.length_toList
        omega
      have hll : (nmL f K).length ≤ 10 := by omega
      have hle : ∀ y ∈ nmL f K, y.length ≤ 60 := fun y hy => by
        obtain ⟨i, hi, rfl⟩ := nmL_mem hy
        have := HF.out i hi
        have e : (f i).data.toList.length = (f i).size := Array.length_toList
        omega
      have hr0 : w1.heap.size < wr.heap.size := by omega
      have hr1 : w1.heap.size + 1 < wr.heap.size := by omega
      have hr2 : w1.heap.size + 1 + 1 < wr.heap.size := by omega
      have HFA := Lib.hid (And.intro hnm (And.intro htx (And.intro hll hle)))
      clear hnm htx hll hle HO hLK
      go_upto_region 14 with fail
      obtain ⟨x, hx⟩ : ∃ X, X = (wr.alloc (Obj.cells #[.string { data := #[97] }, .int .i64 3, .int .u64 0, .int .u64 0, .int .u64 0, .string { data := #[] }, .string { data := #[] }, .int .i64 0, .slice none 0 0, .slice (some ⟨w1.heap.size, 0, none⟩) 1 1, .string { data := #[98] }, .int .i64 4, .int .u64 0, .int .u64 0, .int .u64 0, .string { data := #[] }, .string { data := #[] }, .int .i64 0, .slice none 0 0, .slice vd K vc] 51)).alloc (Obj.cells #[.int .i64 3, .int .u64 0, .int .u64 0, .int .u64 0, .string { data := #[] }, .string { data := #[] }, .int .i64 0, .slice none 0 0, .slice (some ⟨wr.heap.size, 0, none⟩) 2 2] 39) := ⟨_, rfl⟩
      rw [← hx]
      have hbx : Below wr.heap.size wr x := by
        rw [hx]
        exact bel
      have hwx : Below w.heap.size w x := HW.out.trans (hbx.mono HW.out.size)
      have hsx : x.heap.size = wr.heap.size + 1 + 1 := by rw [hx]; simp
      have dx0 := cX hx (wr.heap.size + 1) 0 (.int .i64 3)
      have dx1 := cX hx (wr.heap.size + 1) 1 (.int .u64 0)
      have dx2 := cX hx (wr.heap.size + 1) 2 (.int .u64 0)
      have dx3 := cX hx (wr.heap.size + 1) 3 (.int .u64 0)
      have dx4 := cX hx (wr.heap.size + 1) 4 (.string { data := #[] })
      have dx5 := cX hx (wr.heap.size + 1) 5 (.string { data := #[] })
      have dx6 := cX hx (wr.heap.size + 1) 6 (.int .i64 0)
      have dx7 := cX hx (wr.heap.size + 1) 7 (.slice none 0 0)
      have dx8 := cX hx (wr.heap.size + 1) 8 (.slice (some ⟨wr.heap.size, 0, none⟩) 2 2)
      have HISx : Hid (Is .V (fun _ => True) x 3 (topT s0.data.toList s1.data.toList (nmL f K)) (.agg #[.int .i64 3, .int .u64 0, .int .u64 0, .int .u64 0, .string { data := #[] }, .string { data := #[] }, .int .i64 0, .slice none 0 0, .slice (some ⟨wr.heap.size, 0, none⟩) 2 2])) := Lib.hid (by
        refine top_is (b1 := w1.heap.size) (B := w1.heap.size + 1 + 1 + 1) (T := 51) (by rw [HS2.out]; exact dollar_bs s0) (bs_of s1).symm (nmL_len f K) (rangeAt_block (hbx.block _ (by omega)) HR.out) (by omega) (ownsRow_keeps HO2.out (fun g hg => hbx.block g (World.ownsRow.lt HO2.out g hg).2)) (b4 := wr.heap.size) ?_ (by omega)
        have hh : x.heap[wr.heap.size]? = some (.cells #[.string { data := #[97] }, .int .i64 3, .int .u64 0, .int .u64 0, .int .u64 0, .string { data := #[] }, .string { data := #[] }, .int .i64 0, .slice none 0 0, .slice (some ⟨w1.heap.size, 0, none⟩) 1 1, .string { data := #[98] }, .int .i64 4, .int .u64 0, .int .u64 0, .int .u64 0, .string { data := #[] }, .string { data := #[] }, .int .i64 0, .slice none 0 0, .slice vd K vc] 51 (0, 0)) := by
          rw [hx]
          exact (Below.heap_alloc _ _ _ (by simp)).trans (heap_alloc_last wr _)
        exact range_of hh)
      have hl0 : wr.heap.size + 1 < x.heap.size := by omega
      clear hx hbx
      replace hsx := Lib.hid hsx
      obtain ⟨hnm, htx, hll, hle⟩ := HFA.out
      have HLM := Lib.hid limits_b
      by_cases ho : okT 3 [] (topT s0.data.toList s1.data.toList (nmL f K)) = true
      · obtain ⟨TT, hTT⟩ : ∃ z, topS s0.data.toList s1.data.toList (nmL f K) = z := ⟨_, rfl⟩
        have HCT := Lib.hid (fun w hi => topC_yes hnm htx hll hle hTT ho wr.heap.size w hi)
        have HXT := Lib.hid (fun w hi => topX_yes hnm htx hll hle hTT ho wr.heap.size w hi)
        have HRC := Lib.hid (fun w hi => topR_yes hnm htx hll hle ho wr.heap.size w hi)
        have HET := Lib.hid (fun w => topE hnm htx hll hle hTT ho w)
        have HLO := Lib.hid (fun w hi => topLoss hnm htx hll hle wr.heap.size w hi)
        have HSM := Lib.hid (fun w v2 hi h2 => topSame hnm htx hll hle wr.heap.size (fun _ => True) w v2 hi h2)
        clear hnm htx hll hle ho hTT
        go_wp2_with fail
        with_reducible refine (HCT.out _ ?q2).mono ?_
        case q2 => exact HISx.out.beyond bel
        rintro e w2 ⟨rfl, hb2⟩
        have hv2 := bwB hb2 x.heap.size x
        have c2_0 := cB hb2 (wr.heap.size + 1) 0 (.int .i64 3)
        have c2_1 := cB hb2 (wr.heap.size + 1) 1 (.int .u64 0)
        have c2_2 := cB hb2 (wr.heap.size + 1) 2 (.int .u64 0)
        have c2_3 := cB hb2 (wr.heap.size + 1) 3 (.int .u64 0)
        have c2_4 := cB hb2 (wr.heap.size + 1) 4 (.string { data := #[] })
        have c2_5 := cB hb2 (wr.heap.size + 1) 5 (.string { data := #[] })
        have c2_6 := cB hb2 (wr.heap.size + 1) 6 (.int .i64 0)
        have c2_7 := cB hb2 (wr.heap.size + 1) 7 (.slice none 0 0)
        have c2_8 := cB hb2 (wr.heap.size + 1) 8 (.slice (some ⟨wr.heap.size, 0, none⟩) 2 2)
        have hl2_0 := ltB hb2 (wr.heap.size + 1)
        have hw2 : Below w.heap.size w w2 := hwx.trans (hv2.mono hwx.size)
        have HIS2 := Lib.hid (HISx.out.beyond hv2)
        clear hb2
        go_wp2_with fail
        with_reducible refine (HXT.out _ ?q3).mono ?_
        case q3 => exact HIS2.out.beyond bel
        rintro e w3 ⟨rfl, hb3⟩
        have hv3 := bwB hb3 w2.heap.size w2
        have c3_0 := cB hb3 (wr.heap.size + 1) 0 (.int .i64 3)
        have c3_1 := cB hb3 (wr.heap.size + 1) 1 (.int .u64 0)
        have c3_2 := cB hb3 (wr.heap.size + 1) 2 (.int .u64 0)
        have c3_3 := cB hb3 (wr.heap.size + 1) 3 (.int .u64 0)
        have c3_4 := cB hb3 (wr.heap.size + 1) 4 (.string { data := #[] })
        have c3_5 := cB hb3 (wr.heap.size + 1) 5 (.string { data := #[] })
        have c3_6 := cB hb3 (wr.heap.size + 1) 6 (.int .i64 0)
        have c3_7 := cB hb3 (wr.heap.size + 1) 7 (.slice none 0 0)
        have c3_8 := cB hb3 (wr.heap.size + 1) 8 (.slice (some ⟨wr.heap.size, 0, none⟩) 2 2)
        have c3_9 := cB hb3 w2.heap.size 0 (.int .i64 0)
        have hl3_0 := ltB hb3 (wr.heap.size + 1)
        have hl3_1 := ltB hb3 w2.heap.size
        have hw3 : Below w.heap.size w w3 := hw2.trans (hv3.mono hw2.size)
        have HIS3 := Lib.hid (HIS2.out.beyond hv3)
        clear hb3
        go_wp2_with fail
        with_reducible refine (HRC.out _ ?q4).mono ?_
        case q4 => exact HIS3.out.beyond bel
        rintro e w4 ⟨⟨qa, qn, qc, rfl⟩, hb4⟩
        have hv4 := bwB hb4 w3.heap.size w3
        have c4_0 := cB hb4 (wr.heap.size + 1) 0 (.int .i64 3)
        have c4_1 := cB hb4 (wr.heap.size + 1) 1 (.int .u64 0)
        have c4_2 := cB hb4 (wr.heap.size + 1) 2 (.int .u64 0)
        have c4_3 := cB hb4 (wr.heap.size + 1) 3 (.int .u64 0)
        have c4_4 := cB hb4 (wr.heap.size + 1) 4 (.string { data := #[] })
        have c4_5 := cB hb4 (wr.heap.size + 1) 5 (.string { data := #[] })
        have c4_6 := cB hb4 (wr.heap.size + 1) 6 (.int .i64 0)
        have c4_7 := cB hb4 (wr.heap.size + 1) 7 (.slice none 0 0)
        have c4_8 := cB hb4 (wr.heap.size + 1) 8 (.slice (some ⟨wr.heap.size, 0, none⟩) 2 2)
        have c4_9 := cB hb4 w2.heap.size 0 (.int .i64 0)
        have c4_10 := cB hb4 w3.heap.size 0 (.int .i64 0)
        have hl4_0 := ltB hb4 (wr.heap.size + 1)
        have hl4_1 := ltB hb4 w2.heap.size
        have hl4_2 := ltB hb4 w3.heap.size
        have hw4 : Below w.heap.size w w4 := hw3.trans (hv4.mono hw3.size)
        have HIS4 := Lib.hid (HIS3.out.beyond hv4)
        clear hb4
        go_wp2_with fail
        with_reducible refine (HLM.out _).mono ?_
        rintro e w5 ⟨rfl, hb5⟩
        have hv5 := bwB hb5 w4.heap.size w4
        have c5_0 := cB hb5 (wr.heap.size + 1) 0 (.int .i64 3)
        have c5_1 := cB hb5 (wr.heap.size + 1) 1 (.int .u64 0)
        have c5_2 := cB hb5 (wr.heap.size + 1) 2 (.int .u64 0)
        have c5_3 := cB hb5 (wr.heap.size + 1) 3 (.int .u64 0)
        have c5_4 := cB hb5 (wr.heap.size + 1) 4 (.string { data := #[] })
        have c5_5 := cB hb5 (wr.heap.size + 1) 5 (.string { data := #[] })
        have c5_6 := cB hb5 (wr.heap.size + 1) 6 (.int .i64 0)
        have c5_7 := cB hb5 (wr.heap.size + 1) 7 (.slice none 0 0)
        have c5_8 := cB hb5 (wr.heap.size + 1) 8 (.slice (some ⟨wr.heap.size, 0, none⟩) 2 2)
        have c5_9 := cB hb5 w2.heap.size 0 (.int .i64 0)
        have c5_10 := cB hb5 w3.heap.size 0 (.int .i64 0)
        have hl5_0 := ltB hb5 (wr.heap.size + 1)
        have hl5_1 := ltB hb5 w2.heap.size
        have hl5_2 := ltB hb5 w3.heap.size
        have hw5 : Below w.heap.size w w5 := hw4.trans (hv5.mono hw4.size)
        have HIS5 := Lib.hid (HIS4.out.beyond hv5)
        clear hb5
        go_wp2_with fail
        with_reducible refine (HET.out _).mono ?_
        rintro e w6 ⟨⟨bd6, bc6, ad6, cc6, rfl, hi6⟩, hb6⟩
        have hv6 := bwB hb6 w5.heap.size w5
        have c6_0 := cB hb6 (wr.heap.size + 1) 0 (.int .i64 3)
        have c6_1 := cB hb6 (wr.heap.size + 1) 1 (.int .u64 0)
        have c6_2 := cB hb6 (wr.heap.size + 1) 2 (.int .u64 0)
        have c6_3 := cB hb6 (wr.heap.size + 1) 3 (.int .u64 0)
        have c6_4 := cB hb6 (wr.heap.size + 1) 4 (.string { data := #[] })
        have c6_5 := cB hb6 (wr.heap.size + 1) 5 (.string { data := #[] })
        have c6_6 := cB hb6 (wr.heap.size + 1) 6 (.int .i64 0)
        have c6_7 := cB hb6 (wr.heap.size + 1) 7 (.slice none 0 0)
        have c6_8 := cB hb6 (wr.heap.size + 1) 8 (.slice (some ⟨wr.heap.size, 0, none⟩) 2 2)
        have c6_9 := cB hb6 w2.heap.size 0 (.int .i64 0)
        have c6_10 := cB hb6 w3.heap.size 0 (.int .i64 0)
        have hl6_0 := ltB hb6 (wr.heap.size + 1)
        have hl6_1 := ltB hb6 w2.heap.size
        have hl6_2 := ltB hb6 w3.heap.size
        have hw6 : Below w.heap.size w w6 := hw5.trans (hv6.mono hw5.size)
        have HIS6 := Lib.hid (HIS5.out.beyond hv6)
        have HJ6 := Lib.hid (hi6.mono (Q' := fun _ => True) (fun _ _ _ => True.intro))
        clear hb6 hi6
        go_wp2_with fail
        with_reducible refine (HLM.out _).mono ?_
        rintro e w7 ⟨rfl, hb7⟩
        have hv7 := bwB hb7 w6.heap.size w6
        have c7_0 := cB hb7 (wr.heap.size + 1) 0 (.int .i64 3)
        have c7_1 := cB hb7 (wr.heap.size + 1) 1 (.int .u64 0)
        have c7_2 := cB hb7 (wr.heap.size + 1) 2 (.int .u64 0)
        have c7_3 := cB hb7 (wr.heap.size + 1) 3 (.int .u64 0)
        have c7_4 := cB hb7 (wr.heap.size + 1) 4 (.string { data := #[] })
        have c7_5 := cB hb7 (wr.heap.size + 1) 5 (.string { data := #[] })
        have c7_6 := cB hb7 (wr.heap.size + 1) 6 (.int .i64 0)
        have c7_7 := cB hb7 (wr.heap.size + 1) 7 (.slice none 0 0)
        have c7_8 := cB hb7 (wr.heap.size + 1) 8 (.slice (some ⟨wr.heap.size, 0, none⟩) 2 2)
        have c7_9 := cB hb7 w2.heap.size 0 (.int .i64 0)
        have c7_10 := cB hb7 w3.heap.size 0 (.int .i64 0)
        have c7_11 := cB hb7 w6.heap.size 0 (.int .i64 3)
        have c7_12 := cB hb7 w6.heap.size 1 (.int .u64 0)
        have c7_13 := cB hb7 w6.heap.size 2 (.int .u64 0)
        have c7_14 := cB hb7 w6.heap.size 3 (.int .u64 0)
        have c7_15 := cB hb7 w6.heap.size 4 (.string { data := #[] })
        have c7_16 := cB hb7 w6.heap.size 5 (.string { data := #[] })
        have c7_17 := cB hb7 w6.heap.size 6 (.int .i64 0)
        have c7_18 := cB hb7 w6.heap.size 7 (.slice bd6 0 bc6)
        have c7_19 := cB hb7 w6.heap.size 8 (.slice ad6 2 cc6)
        have c7_20 := cB hb7 (w6.heap.size + 1) 0 (.int .i64 0)
        have hl7_0 := ltB hb7 (wr.heap.size + 1)
        have hl7_1 := ltB hb7 w2.heap.size
        have hl7_2 := ltB hb7 w3.heap.size
        have hl7_3 := ltB hb7 w6.heap.size
        have hl7_4 := ltB hb7 (w6.heap.size + 1)
        have hw7 : Below w.heap.size w w7 := hw6.trans (hv7.mono hw6.size)
        have HIS7 := Lib.hid (HIS6.out.beyond hv7)
        have HJ7 := Lib.hid (HJ6.out.beyond hv7)
        clear hb7
        go_wp2_with fail
        with_reducible refine (HET.out _).mono ?_
        rintro e w8 ⟨⟨bd8, bc8, ad8, cc8, rfl, hi8⟩, hb8⟩
        have hv8 := bwB hb8 w7.heap.size w7
        have c8_0 := cB hb8 (wr.heap.size + 1) 0 (.int .i64 3)
        have c8_1 := cB hb8 (wr.heap.size + 1) 1 (.int .u64 0)
        have c8_2 := cB hb8 (wr.heap.size + 1) 2 (.int .u64 0)
        have c8_3 := cB hb8 (wr.heap.size + 1) 3 (.int .u64 0)
        have c8_4 := cB hb8 (wr.heap.size + 1) 4 (.string { data := #[] })
        have c8_5 := cB hb8 (wr.heap.size + 1) 5 (.string { data := #[] })
        have c8_6 := cB hb8 (wr.heap.size + 1) 6 (.int .i64 0)
        have c8_7 := cB hb8 (wr.heap.size + 1) 7 (.slice none 0 0)
        have c8_8 := cB hb8 (wr.heap.size + 1) 8 (.slice (some ⟨wr.heap.size, 0, none⟩) 2 2)
        have c8_9 := cB hb8 w2.heap.size 0 (.int .i64 0)
        have c8_10 := cB hb8 w3.heap.size 0 (.int .i64 0)
        have c8_11 := cB hb8 w6.heap.size 0 (.int .i64 3)
        have c8_12 := cB hb8 w6.heap.size 1 (.int .u64 0)
        have c8_13 := cB hb8 w6.heap.size 2 (.int .u64 0)
        have c8_14 := cB hb8 w6.heap.size 3 (.int .u64 0)
        have c8_15 := cB hb8 w6.heap.size 4 (.string { data := #[] })
        have c8_16 := cB hb8 w6.heap.size 5 (.string { data := #[] })
        have c8_17 := cB hb8 w6.heap.size 6 (.int .i64 0)
        have c8_18 := cB hb8 w6.heap.size 7 (.slice bd6 0 bc6)
        have c8_19 := cB hb8 w6.heap.size 8 (.slice ad6 2 cc6)
        have c8_20 := cB hb8 (w6.heap.size + 1) 0 (.int .i64 0)
        have hl8_0 := ltB hb8 (wr.heap.size + 1)
        have hl8_1 := ltB hb8 w2.heap.size
        have hl8_2 := ltB hb8 w3.heap.size
        have hl8_3 := ltB hb8 w6.heap.size
        have hl8_4 := ltB hb8 (w6.heap.size + 1)
        have hw8 : Below w.heap.size w w8 := hw7.trans (hv8.mono hw7.size)
        have HIS8 := Lib.hid (HIS7.out.beyond hv8)
        have HJ8 := Lib.hid (HJ7.out.beyond hv8)
        have HK8 := Lib.hid (hi8.mono (Q' := fun _ => True) (fun _ _ _ => True.intro))
        clear hb8 hi8
        go_upto_region 21 with fail
        obtain ⟨y, hy⟩ : ∃ X, X = (w8.alloc (Obj.cells #[.int .i64 3, .int .u64 0, .int .u64 0, .int .u64 0, .string { data := #[] }, .string { data := #[] }, .int .i64 0, .slice bd8 0 bc8, .slice ad8 2 cc8] 39)).alloc (Obj.cells #[.int .i64 0, .int .i64 0, .slice none 0 0] 33) := ⟨_, rfl⟩
        rw [← hy]
        have hvy : Below w8.heap.size w8 y := by
          rw [hy]
          exact bel
        have hwy : Below w.heap.size w y := hw8.trans (hvy.mono hw8.size)
        have hsy : y.heap.size = w8.heap.size + 1 + 1 := by rw [hy]; simp
        have y0 := cA hy c8_0
        have y1 := cA hy c8_1
        have y2 := cA hy c8_2
        have y3 := cA hy c8_3
        have y4 := cA hy c8_4
        have y5 := cA hy c8_5
        have y6 := cA hy c8_6
        have y7 := cA hy c8_7
        have y8 := cA hy c8_8
        have y9 := cA hy c8_9
        have y10 := cA hy c8_10
        have y11 := cA hy c8_11
        have y12 := cA hy c8_12
        have y13 := cA hy c8_13
        have y14 := cA hy c8_14
        have y15 := cA hy c8_15
        have y16 := cA hy c8_16
        have y17 := cA hy c8_17
        have y18 := cA hy c8_18
        have y19 := cA hy c8_19
        have y20 := cA hy c8_20
        have z0 := cX hy w8.heap.size 0 (.int .i64 3)
        have z1 := cX hy w8.heap.size 1 (.int .u64 0)
        have z2 := cX hy w8.heap.size 2 (.int .u64 0)
        have z3 := cX hy w8.heap.size 3 (.int .u64 0)
        have z4 := cX hy w8.heap.size 4 (.string { data := #[] })
        have z5 := cX hy w8.heap.size 5 (.string { data := #[] })
        have z6 := cX hy w8.heap.size 6 (.int .i64 0)
        have z7 := cX hy w8.heap.size 7 (.slice bd8 0 bc8)
        have z8 := cX hy w8.heap.size 8 (.slice ad8 2 cc8)
        have z9 := cX hy (w8.heap.size + 1) 0 (.int .i64 0)
        have HISy := Lib.hid (HIS8.out.beyond hvy)
        have HJy := Lib.hid (HJ8.out.beyond hvy)
        have HKy := Lib.hid (HK8.out.beyond hvy)
        have hly0 : wr.heap.size + 1 < y.heap.size := by omega
        have hly8 : w8.heap.size < y.heap.size := by omega
        clear hy
        replace hsy := Lib.hid hsy
        go_wp2_with fail
        with_reducible refine (HSM.out _ _ ?q9 ?r9).mono ?_
        case q9 => exact HISy.out.beyond bel
        case r9 => exact HJy.out.beyond bel
        rintro e w9 ⟨rfl, hb9⟩
        have hv9 := bwB hb9 y.heap.size y
        have c9_0 := cB hb9 (wr.heap.size + 1) 0 (.int .i64 3)
        have c9_1 := cB hb9 (wr.heap.size + 1) 1 (.int .u64 0)
        have c9_2 := cB hb9 (wr.heap.size + 1) 2 (.int .u64 0)
        have c9_3 := cB hb9 (wr.heap.size + 1) 3 (.int .u64 0)
        have c9_4 := cB hb9 (wr.heap.size + 1) 4 (.string { data := #[] })
        have c9_5 := cB hb9 (wr.heap.size + 1) 5 (.string { data := #[] })
        have c9_6 := cB hb9 (wr.heap.size + 1) 6 (.int .i64 0)
        have c9_7 := cB hb9 (wr.heap.size + 1) 7 (.slice none 0 0)
        have c9_8 := cB hb9 (wr.heap.size + 1) 8 (.slice (some ⟨wr.heap.size, 0, none⟩) 2 2)
        have c9_9 := cB hb9 w8.heap.size 0 (.int .i64 3)
        have c9_10 := cB hb9 w8.heap.size 1 (.int .u64 0)
        have c9_11 := cB hb9 w8.heap.size 2 (.int .u64 0)
        have c9_12 := cB hb9 w8.heap.size 3 (.int .u64 0)
        have c9_13 := cB hb9 w8.heap.size 4 (.string { data := #[] })
        have c9_14 := cB hb9 w8.heap.size 5 (.string { data := #[] })
        have c9_15 := cB hb9 w8.heap.size 6 (.int .i64 0)
        have c9_16 := cB hb9 w8.heap.size 7 (.slice bd8 0 bc8)
        have c9_17 := cB hb9 w8.heap.size 8 (.slice ad8 2 cc8)
        have hl9_0 := ltB hb9 (wr.heap.size + 1)
        have hl9_1 := ltB hb9 w8.heap.size
        have hw9 : Below w.heap.size w w9 := hwy.trans (hv9.mono hwy.size)
        have HIS9 := Lib.hid (HISy.out.beyond hv9)
        have HK9 := Lib.hid (HKy.out.beyond hv9)
        clear hb9
        go_wp2_with fail
        with_reducible refine (HSM.out _ _ ?q10 ?r10).mono ?_
        case q10 => exact HIS9.out.beyond bel
        case r10 => exact HK9.out.beyond bel
        rintro e w10 ⟨rfl, hb10⟩
        have hv10 := bwB hb10 w9.heap.size w9
        have c10_0 := cB hb10 (wr.heap.size + 1) 0 (.int .i64 3)
        have c10_1 := cB hb10 (wr.heap.size + 1) 1 (.int .u64 0)
        have c10_2 := cB hb10 (wr.heap.size + 1) 2 (.int .u64 0)
        have c10_3 := cB hb10 (wr.heap.size + 1) 3 (.int .u64 0)
        have c10_4 := cB hb10 (wr.heap.size + 1) 4 (.string { data := #[] })
        have c10_5 := cB hb10 (wr.heap.size + 1) 5 (.string { data := #[] })
        have c10_6 := cB hb10 (wr.heap.size + 1) 6 (.int .i64 0)
        have c10_7 := cB hb10 (wr.heap.size + 1) 7 (.slice none 0 0)
        have c10_8 := cB hb10 (wr.heap.size + 1) 8 (.slice (some ⟨wr.heap.size, 0, none⟩) 2 2)
        have hl10_0 := ltB hb10 (wr.heap.size + 1)
        have hw10 : Below w.heap.size w w10 := hw9.trans (hv10.mono hw9.size)
        have HIS10 := Lib.hid (HIS9.out.beyond hv10)
        clear hb10
        go_wp2_with fail
        with_reducible refine (HLO.out _ ?q11).mono ?_
        case q11 => exact HIS10.out.beyond bel
        rintro e w11 ⟨rfl, hb11⟩
        have hv11 := bwB hb11 w10.heap.size w10
        have hw11 : Below w.heap.size w w11 := hw10.trans (hv11.mono hw10.size)
        clear hb11
        go_wp2_with fail
        go_ret
        exact ⟨rfl, hw11⟩
      · have ho' : okT 3 [] (topT s0.data.toList s1.data.toList (nmL f K)) = false := by simpa using ho
        have HCT := Lib.hid (fun w hi => topC_no hnm htx hll hle ho' wr.heap.size w hi)
        have HXT := Lib.hid (fun w hi => topX_no hnm htx hll hle ho' wr.heap.size w hi)
        have HRC := Lib.hid (fun w hi => topR_no hnm htx hll hle ho' wr.heap.size w hi)
        clear hnm htx hll hle ho ho'
        go_wp2_with fail
        with_reducible refine (HCT.out _ ?q2).mono ?_
        case q2 => exact HISx.out.beyond bel
        rintro e w2 ⟨⟨qa2, qn2, qc2, rfl⟩, hb2⟩
        have hv2 := bwB hb2 x.heap.size x
        have c2_0 := cB hb2 (wr.heap.size + 1) 0 (.int .i64 3)
        have c2_1 := cB hb2 (wr.heap.size + 1) 1 (.int .u64 0)
        have c2_2 := cB hb2 (wr.heap.size + 1) 2 (.int .u64 0)
        have c2_3 := cB hb2 (wr.heap.size + 1) 3 (.int .u64 0)
        have c2_4 := cB hb2 (wr.heap.size + 1) 4 (.string { data := #[] })
        have c2_5 := cB hb2 (wr.heap.size + 1) 5 (.string { data := #[] })
        have c2_6 := cB hb2 (wr.heap.size + 1) 6 (.int .i64 0)
        have c2_7 := cB hb2 (wr.heap.size + 1) 7 (.slice none 0 0)
        have c2_8 := cB hb2 (wr.heap.size + 1) 8 (.slice (some ⟨wr.heap.size, 0, none⟩) 2 2)
        have hl2_0 := ltB hb2 (wr.heap.size + 1)
        have hw2 : Below w.heap.size w w2 := hwx.trans (hv2.mono hwx.size)
        have HIS2 := Lib.hid (HISx.out.beyond hv2)
        clear hb2
        go_wp2_with fail
        with_reducible refine (HXT.out _ ?q3).mono ?_
        case q3 => exact HIS2.out.beyond bel
        rintro e w3 ⟨⟨qa3, qn3, qc3, rfl⟩, hb3⟩
        have hv3 := bwB hb3 w2.heap.size w2
        have c3_0 := cB hb3 (wr.heap.size + 1) 0 (.int .i64 3)
        have c3_1 := cB hb3 (wr.heap.size + 1) 1 (.int .u64 0)
        have c3_2 := cB hb3 (wr.heap.size + 1) 2 (.int .u64 0)
        have c3_3 := cB hb3 (wr.heap.size + 1) 3 (.int .u64 0)
        have c3_4 := cB hb3 (wr.heap.size + 1) 4 (.string { data := #[] })
        have c3_5 := cB hb3 (wr.heap.size + 1) 5 (.string { data := #[] })
        have c3_6 := cB hb3 (wr.heap.size + 1) 6 (.int .i64 0)
        have c3_7 := cB hb3 (wr.heap.size + 1) 7 (.slice none 0 0)
        have c3_8 := cB hb3 (wr.heap.size + 1) 8 (.slice (some ⟨wr.heap.size, 0, none⟩) 2 2)
        have c3_9 := cB hb3 w2.heap.size 0 (.int .i64 4)
        have hl3_0 := ltB hb3 (wr.heap.size + 1)
        have hl3_1 := ltB hb3 w2.heap.size
        have hw3 : Below w.heap.size w w3 := hw2.trans (hv3.mono hw2.size)
        have HIS3 := Lib.hid (HIS2.out.beyond hv3)
        clear hb3
        go_wp2_with fail
        with_reducible refine (HRC.out _ ?q4).mono ?_
        case q4 => exact HIS3.out.beyond bel
        rintro e w4 ⟨⟨qa, qn, qc, rfl⟩, hb4⟩
        have hv4 := bwB hb4 w3.heap.size w3
        have c4_0 := cB hb4 (wr.heap.size + 1) 0 (.int .i64 3)
        have c4_1 := cB hb4 (wr.heap.size + 1) 1 (.int .u64 0)
        have c4_2 := cB hb4 (wr.heap.size + 1) 2 (.int .u64 0)
        have c4_3 := cB hb4 (wr.heap.size + 1) 3 (.int .u64 0)
        have c4_4 := cB hb4 (wr.heap.size + 1) 4 (.string { data := #[] })
        have c4_5 := cB hb4 (wr.heap.size + 1) 5 (.string { data := #[] })
        have c4_6 := cB hb4 (wr.heap.size + 1) 6 (.int .i64 0)
        have c4_7 := cB hb4 (wr.heap.size + 1) 7 (.slice none 0 0)
        have c4_8 := cB hb4 (wr.heap.size + 1) 8 (.slice (some ⟨wr.heap.size, 0, none⟩) 2 2)
        have c4_9 := cB hb4 w2.heap.size 0 (.int .i64 4)
        have c4_10 := cB hb4 w3.heap.size 0 (.int .i64 4)
        have hl4_0 := ltB hb4 (wr.heap.size + 1)
        have hl4_1 := ltB hb4 w2.heap.size
        have hl4_2 := ltB hb4 w3.heap.size
        have hw4 : Below w.heap.size w w4 := hw3.trans (hv4.mono hw3.size)
        clear hb4
        go_wp2_with fail
        go_ret
        exact ⟨rfl, hw4⟩
end
end Go.Proofs.YtihnfhhopldllaaGreatDoor
