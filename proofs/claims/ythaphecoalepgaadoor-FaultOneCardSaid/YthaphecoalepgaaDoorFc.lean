/- Contracts of fault.Text and the reference's Text. Conditions: at most 5000 places; the table of powers of 10 is laid. -/
import Derived.Test.YthaphecoalepgaaDoorFb
import Derived.Test.YthaphecoalepgaaDoorSl
namespace Go.Proofs.YthaphecoalepgaaDoor
open Go.RowKit
set_option linter.unusedSimpArgs false
set_option linter.unusedVariables false

def gp (p : List Int) (i : Nat) : Int := p.getD i 0
theorem pthL_snoc (p : List Int) (v : Int) : pthL (p ++ [v]) = pthL p ++ 47 :: Lib.decDigits v.toNat := by unfold pthL; simp

set_option maxRecDepth 100000 in
set_option maxHeartbeats 3200000 in
theorem faultText_any (e a : Int) (ad : Option Addr) (n c : Nat) (p : List Int) (hn : p.length = n) (hz : n ≤ 5000) (a1 : a ≤ 9223372036854775807) (hp : ∀ v ∈ p, v ≤ 9223372036854775807) (w : World) (htab : PowTab w) (hS : Sl .i64 w ad n (gp p)) :
    Calls Tryd.prog 15 #[.agg #[.int .i64 e, .int .i64 a, .slice ad n c]] w fun en w' => en = .returned (.string ⟨(txtL e a p).toArray⟩) ∧ Below w.heap.size w w' := by
  obtain ⟨O, hO⟩ : ∃ O : ByteArray, (⟨(txtL e a p).toArray⟩ : ByteArray) = O := ⟨_, rfl⟩
  rw [hO]
  have HO := Lib.hid hO
  have HT := Lib.hid htab
  have HS := Lib.hid hS
  have HP := Lib.hid hp
  have HN := Lib.hid hn
  have NM := Lib.hid (fun (w : World) => faultName_any e w)
  obtain ⟨nb, hnb⟩ : ∃ nb : ByteArray, (⟨(nmL e).toArray⟩ : ByteArray) = nb := ⟨_, rfl⟩
  rw [hnb] at NM
  have hnl : nb.data.toList = nmL e := by rw [← hnb]
  have hns : nb.data.toList.length = nb.size := by simp
  have hn6 : nb.size ≤ 6 := by rw [← hns, hnl]; exact nmL_len e
  have hE := isEmpty_size nb
  clear htab hS hp hn hO hnb
  by_cases h0 : nmL e = []
  · have hb0 : nb.size = 0 := by rw [← hns, hnl, h0]; rfl
    rw [decide_eq_true hb0] at hE
    have HF : Hid (O = { data := #[] }) := Lib.hid (by rw [← HO.out]; unfold txtL; rw [if_pos (Or.inl h0)])
    clear h0 hns hnl hb0
    go_enter Tryd.func15, Tryd.ntmps15
    go_wp2_with fail
    with_reducible refine (NM.out _).mono ?_
    rintro e w1 ⟨rfl, hb1⟩
    have hw1 : Below w.heap.size w w1 := Below.trans (by repeat' (first | (with_reducible assumption) | (with_reducible exact Below.refl _ _) | (with_reducible refine below_drewN ?_ _) | (with_reducible refine Below.drew ?_) | (with_reducible refine Below.setCell ?_ ?_ _) | (with_reducible refine Below.alloc ?_ ?_ _) | omega | (simp; done) | (simp; omega))) (hb1.mono (by first | assumption | (simp; done) | (simp; omega)))
    have hz1 := hw1.size
    clear hb1
    go_wp2_with fail
    go_ret
    exact ⟨ret_sb HF.out.symm, hw1⟩
  · have hb0 : ¬ nb.size = 0 := fun h => h0 (by rw [← hnl]; exact List.eq_nil_of_length_eq_zero (by omega))
    rw [decide_eq_false hb0] at hE
    by_cases ha : a < 0
    · have HF : Hid (O = { data := #[] }) := Lib.hid (by rw [← HO.out]; unfold txtL; rw [if_pos (Or.inr (Or.inl ha))])
      clear h0 hns hnl hb0
      go_enter Tryd.func15, Tryd.ntmps15
      go_wp2_with fail
      with_reducible refine (NM.out _).mono ?_
      rintro e w1 ⟨rfl, hb1⟩
      have c1_0 : w1.cell? ⟨w.heap.size, 1, none⟩ = some (.int .i64 a) := (hb1.cell (p := ⟨w.heap.size, 1, none⟩) (by first | assumption | (simp; done) | (simp; omega))).trans (by first | assumption | (simp [go_sem]; done) | (simp [go_sem, *]; done))
      have hl1_0 : w.heap.size < w1.heap.size := by have hs := hb1.size; first | (simp at hs; omega) | omega
      have hw1 : Below w.heap.size w w1 := Below.trans (by repeat' (first | (with_reducible assumption) | (with_reducible exact Below.refl _ _) | (with_reducible refine below_drewN ?_ _) | (with_reducible refine Below.drew ?_) | (with_reducible refine Below.setCell ?_ ?_ _) | (with_reducible refine Below.alloc ?_ ?_ _) | omega | (simp; done) | (simp; omega))) (hb1.mono (by first | assumption | (simp; done) | (simp; omega)))
      have hz1 := hw1.size
      clear hb1
      go_wp2_with fail
      go_ret
      exact ⟨ret_sb HF.out.symm, hw1⟩
    · obtain ⟨da, hda⟩ : ∃ da : ByteArray, (⟨(Lib.decDigits a.toNat).toArray⟩ : ByteArray) = da := ⟨_, rfl⟩
      have hdl : da.data.toList = Lib.decDigits a.toNat := by rw [← hda]
      have hds : da.size ≤ 20 := by
        have e2 : da.data.toList.length = da.size := by simp
        rw [← e2, hdl, Lib.decDigits_length]; exact nDigits_of_lt 20 _ (by decide) (by omega)
      have DG := Lib.hid (fun (w : World) (h : PowTab w) => itoa_any a (by omega) (by omega) w h)
      rw [hda] at DG
      have HSO : Hid ((nb ++ (({ data := #[64] } : ByteArray) ++ da)).data.toList = nmL e ++ 64 :: (Lib.decDigits a.toNat ++ pthL (p.take 0))) := Lib.hid (by
        rw [one_cat]; simp [hnl, hdl, pthL])
      have H0 := Lib.hid h0
      have hs1 : 1 + da.size ≤ 21 := by omega
      have hs2 : nb.size + (1 + da.size) ≤ 27 := by omega
      clear h0 hns hnl hb0 hda hdl
      go_enter Tryd.func15, Tryd.ntmps15
      go_wp2_with fail
      with_reducible refine (NM.out _).mono ?_
      rintro e w1 ⟨rfl, hb1⟩
      have c1_0 : w1.cell? ⟨w.heap.size, 1, none⟩ = some (.int .i64 a) := (hb1.cell (p := ⟨w.heap.size, 1, none⟩) (by first | assumption | (simp; done) | (simp; omega))).trans (by first | assumption | (simp [go_sem]; done) | (simp [go_sem, *]; done))
      have c1_1 : w1.cell? ⟨w.heap.size, 2, none⟩ = some (.slice ad n c) := (hb1.cell (p := ⟨w.heap.size, 2, none⟩) (by first | assumption | (simp; done) | (simp; omega))).trans (by first | assumption | (simp [go_sem]; done) | (simp [go_sem, *]; done))
      have hl1_0 : w.heap.size < w1.heap.size := by have hs := hb1.size; first | (simp at hs; omega) | omega
      have hw1 : Below w.heap.size w w1 := Below.trans (by repeat' (first | (with_reducible assumption) | (with_reducible exact Below.refl _ _) | (with_reducible refine below_drewN ?_ _) | (with_reducible refine Below.drew ?_) | (with_reducible refine Below.setCell ?_ ?_ _) | (with_reducible refine Below.alloc ?_ ?_ _) | omega | (simp; done) | (simp; omega))) (hb1.mono (by first | assumption | (simp; done) | (simp; omega)))
      have hz1 := hw1.size
      clear hb1
      go_wp2_with fail
      with_reducible refine (DG.out _ (tabIs_below HT.out (by repeat' (first | (with_reducible assumption) | (with_reducible exact Below.refl _ _) | (with_reducible refine below_drewN ?_ _) | (with_reducible refine Below.drew ?_) | (with_reducible refine Below.setCell ?_ ?_ _) | (with_reducible refine Below.alloc ?_ ?_ _) | omega | (simp; done) | (simp; omega))))).mono ?_
      rintro e w2 ⟨rfl, hb2⟩
      have c2_0 : w2.cell? ⟨w.heap.size, 1, none⟩ = some (.int .i64 a) := (hb2.cell (p := ⟨w.heap.size, 1, none⟩) (by first | assumption | (simp; done) | (simp; omega))).trans (by first | assumption | (simp [go_sem]; done) | (simp [go_sem, *]; done))
      have c2_1 : w2.cell? ⟨w.heap.size, 2, none⟩ = some (.slice ad n c) := (hb2.cell (p := ⟨w.heap.size, 2, none⟩) (by first | assumption | (simp; done) | (simp; omega))).trans (by first | assumption | (simp [go_sem]; done) | (simp [go_sem, *]; done))
      have hl2_0 : w.heap.size < w2.heap.size := by have hs := hb2.size; first | (simp at hs; omega) | omega
      have hw2 : Below w.heap.size w w2 := Below.trans (by repeat' (first | (with_reducible assumption) | (with_reducible exact Below.refl _ _) | (with_reducible refine below_drewN ?_ _) | (with_reducible refine Below.drew ?_) | (with_reducible refine Below.setCell ?_ ?_ _) | (with_reducible refine Below.alloc ?_ ?_ _) | omega | (simp; done) | (simp; omega))) (hb2.mono (by first | assumption | (simp; done) | (simp; omega)))
      have hz2 := hw2.size
      clear hb2
      go_wp2_with fail
      have HW2 := Lib.hid hw2
      go_loopw [3, 25] (fun t i wr => ∃ (K : Nat) (tb : ByteArray), t = .string tb ∧ i = .int .i64 K ∧ K ≤ n ∧ Hid (tb.data.toList = nmL e ++ 64 :: (Lib.decDigits a.toNat ++ pthL (p.take K))) ∧ tb.size ≤ 27 + 21 * K ∧ Hid (∀ v ∈ p.take K, 0 ≤ v) ∧ Below w.heap.size w wr ) (fun _ i _ => n - (intOf i).toNat)
      case atStart =>
        refine ⟨0, _, rfl, rfl, Nat.zero_le _, HSO, ?_, Lib.hid (by simp), hw2⟩
        have e1 : ({ data := #[64] } : ByteArray).size = 1 := rfl
        rw [ByteArray.size_append, ByteArray.size_append, e1]; omega
      case round =>
        obtain ⟨K, tb, rfl, rfl, hK, HTB, htb, HPO, hbw⟩ := hrel
        have hzr := hbw.size
        clear HSO DG NM hw1 hw2
        by_cases hlt : K < n
        · obtain ⟨x, rfl, hl, hcx⟩ := HS.out.beyond hbw K hlt
          have hmem : gp p K ∈ p := by
            have := HN.out
            unfold gp
            rw [List.getD_eq_getElem?_getD, List.getElem?_eq_getElem (by omega)]
            exact List.getElem_mem _
          have v1 := HP.out _ hmem
          have HTK : Hid (p.take (K + 1) = p.take K ++ [gp p K]) := Lib.hid (by
            have := HN.out
            rw [List.take_succ_eq_append_getElem (by omega)]
            unfold gp
            rw [List.getD_eq_getElem?_getD, List.getElem?_eq_getElem (by omega)]; rfl)
          have k0 : (0 : Int) ≤ (K : Int) := by omega
          have k1 : (K : Int) < (n : Int) := by omega
          have HM := Lib.hid hmem
          clear hmem
          generalize gp p K = v at *
          by_cases hv : v < 0
          · have HF : Hid (O = { data := #[] }) := Lib.hid (by rw [← HO.out]; unfold txtL; rw [if_pos (Or.inr (Or.inr ⟨v, HM.out, hv⟩))])
            go_wp2_with fail
            go_ret
            exact ⟨ret_sb HF.out.symm, hbw⟩
          · obtain ⟨dv, hdv⟩ : ∃ dv : ByteArray, (⟨(Lib.decDigits v.toNat).toArray⟩ : ByteArray) = dv := ⟨_, rfl⟩
            have hdl : dv.data.toList = Lib.decDigits v.toNat := by rw [← hdv]
            have hdv2 : dv.size ≤ 20 := by
              have e2 : dv.data.toList.length = dv.size := by simp
              rw [← e2, hdl, Lib.decDigits_length]; exact nDigits_of_lt 20 _ (by decide) (by omega)
            have DV := Lib.hid (fun (w : World) (h : PowTab w) => itoa_any v (by omega) (by omega) w h)
            rw [hdv] at DV
            have HNX : Hid ((tb ++ (({ data := #[47] } : ByteArray) ++ dv)).data.toList = nmL e ++ 64 :: (Lib.decDigits a.toNat ++ pthL (p.take (K + 1)))) := Lib.hid (by
              rw [HTK.out, one_cat, pthL_snoc]; simp [HTB.out, hdl])
            have HPX : Hid (∀ v ∈ p.take (K + 1), 0 ≤ v) := Lib.hid (by
              intro u hu
              rw [HTK.out] at hu
              rcases List.mem_append.1 hu with h | h
              · exact HPO.out u h
              · rw [List.mem_singleton.1 h]; omega)
            have hs1 : 1 + dv.size ≤ 21 := by omega
            have hs2 : tb.size + (1 + dv.size) ≤ 27 + 21 * (K + 1) := by omega
            have hs3 : tb.size + (1 + dv.size) ≤ 200000 := by omega
            clear hdl hdv
            go_wp2_with fail
            with_reducible refine (DV.out _ (tabIs_below HT.out (by repeat' (first | (with_reducible assumption) | (with_reducible exact Below.refl _ _) | (with_reducible refine below_drewN ?_ _) | (with_reducible refine Below.drew ?_) | (with_reducible refine Below.setCell ?_ ?_ _) | (with_reducible refine Below.alloc ?_ ?_ _) | omega | (simp; done) | (simp; omega))))).mono ?_
            rintro e w3 ⟨rfl, hb3⟩
            have hw3 : Below w.heap.size w w3 := Below.trans (by repeat' (first | (with_reducible assumption) | (with_reducible exact Below.refl _ _) | (with_reducible refine below_drewN ?_ _) | (with_reducible refine Below.drew ?_) | (with_reducible refine Below.setCell ?_ ?_ _) | (with_reducible refine Below.alloc ?_ ?_ _) | omega | (simp; done) | (simp; omega))) (hb3.mono (by first | assumption | (simp; done) | (simp; omega)))
            have hz3 := hw3.size
            clear hb3
            go_wp2_with fail
            go_roundw
            case rel => 
              refine ⟨K + 1, _, rfl, by go_num, by omega, HNX, ?_, HPX, by repeat' (first | (with_reducible assumption) | (with_reducible exact Below.refl _ _) | (with_reducible refine below_drewN ?_ _) | (with_reducible refine Below.drew ?_) | (with_reducible refine Below.setCell ?_ ?_ _) | (with_reducible refine Below.alloc ?_ ?_ _) | omega | (simp; done) | (simp; omega))⟩
              have e1 : ({ data := #[47] } : ByteArray).size = 1 := rfl
              rw [ByteArray.size_append, ByteArray.size_append, e1]; omega
            case measure => simp [intOf]; omega
        · have hKe : p.take K = p := List.take_of_length_le (by have := HN.out; omega)
          have HF : Hid (tb = O) := Lib.hid (by
            refine str_ext ?_
            rw [HTB.out, hKe, ← HO.out]
            have hpo := HPO.out
            rw [hKe] at hpo
            unfold txtL
            rw [if_neg]
            rintro (h | h | ⟨v, hv, h⟩)
            · exact H0.out h
            · omega
            · have := hpo v hv; omega)
          clear hKe
          go_wp2_with fail
          go_ret
          exact ⟨ret_sb HF.out, hbw⟩

set_option maxRecDepth 100000 in
set_option maxHeartbeats 3200000 in
theorem refText_any (e a : Int) (ad : Option Addr) (n c : Nat) (p : List Int) (hn : p.length = n) (hz : n ≤ 5000) (a1 : a ≤ 9223372036854775807) (hp : ∀ v ∈ p, v ≤ 9223372036854775807) (w : World) (hS : Sl .i64 w ad n (gp p)) :
    Calls Tryd.prog 16 #[.agg #[.int .i64 e, .int .i64 a, .slice ad n c]] w fun en w' => en = .returned (.string ⟨(txtL e a p).toArray⟩) ∧ Below w.heap.size w w' := by
  obtain ⟨O, hO⟩ : ∃ O : ByteArray, (⟨(txtL e a p).toArray⟩ : ByteArray) = O := ⟨_, rfl⟩
  rw [hO]
  have HO := Lib.hid hO
  have HS := Lib.hid hS
  have HP := Lib.hid hp
  have HN := Lib.hid hn
  have NM := Lib.hid (fun (w : World) => refName_any e w)
  obtain ⟨nb, hnb⟩ : ∃ nb : ByteArray, (⟨(nmL e).toArray⟩ : ByteArray) = nb := ⟨_, rfl⟩
  rw [hnb] at NM
  have hnl : nb.data.toList = nmL e := by rw [← hnb]
  have hns : nb.data.toList.length = nb.size := by simp
  have hn6 : nb.size ≤ 6 := by rw [← hns, hnl]; exact nmL_len e
  have hE := isEmpty_size nb
  clear hS hp hn hO hnb
  by_cases h0 : nmL e = []
  · have hb0 : nb.size = 0 := by rw [← hns, hnl, h0]; rfl
    rw [decide_eq_true hb0] at hE
    have HF : Hid (O = { data := #[] }) := Lib.hid (by rw [← HO.out]; unfold txtL; rw [if_pos (Or.inl h0)])
    clear h0 hns hnl hb0
    go_enter Tryd.func16, Tryd.ntmps16
    go_wp2_with fail
    with_reducible refine (NM.out _).mono ?_
    rintro e w1 ⟨rfl, hb1⟩
    have hw1 : Below w.heap.size w w1 := Below.trans (by repeat' (first | (with_reducible assumption) | (with_reducible exact Below.refl _ _) | (with_reducible refine below_drewN ?_ _) | (with_reducible refine Below.drew ?_) | (with_reducible refine Below.setCell ?_ ?_ _) | (with_reducible refine Below.alloc ?_ ?_ _) | omega | (simp; done) | (simp; omega))) (hb1.mono (by first | assumption | (simp; done) | (simp; omega)))
    have hz1 := hw1.size
    clear hb1
    go_wp2_with fail
    go_ret
    exact ⟨ret_sb HF.out.symm, hw1⟩
  · have hb0 : ¬ nb.size = 0 := fun h => h0 (by rw [← hnl]; exact List.eq_nil_of_length_eq_zero (by omega))
    rw [decide_eq_false hb0] at hE
    by_cases ha : a < 0
    · have HF : Hid (O = { data := #[] }) := Lib.hid (by rw [← HO.out]; unfold txtL; rw [if_pos (Or.inr (Or.inl ha))])
      clear h0 hns hnl hb0
      go_enter Tryd.func16, Tryd.ntmps16
      go_wp2_with fail
      with_reducible refine (NM.out _).mono ?_
      rintro e w1 ⟨rfl, hb1⟩
      have c1_0 : w1.cell? ⟨w.heap.size, 1, none⟩ = some (.int .i64 a) := (hb1.cell (p := ⟨w.heap.size, 1, none⟩) (by first | assumption | (simp; done) | (simp; omega))).trans (by first | assumption | (simp [go_sem]; done) | (simp [go_sem, *]; done))
      have hl1_0 : w.heap.size < w1.heap.size := by have hs := hb1.size; first | (simp at hs; omega) | omega
      have hw1 : Below w.heap.size w w1 := Below.trans (by repeat' (first | (with_reducible assumption) | (with_reducible exact Below.refl _ _) | (with_reducible refine below_drewN ?_ _) | (with_reducible refine Below.drew ?_) | (with_reducible refine Below.setCell ?_ ?_ _) | (with_reducible refine Below.alloc ?_ ?_ _) | omega | (simp; done) | (simp; omega))) (hb1.mono (by first | assumption | (simp; done) | (simp; omega)))
      have hz1 := hw1.size
      clear hb1
      go_wp2_with fail
      go_ret
      exact ⟨ret_sb HF.out.symm, hw1⟩
    · obtain ⟨da, hda⟩ : ∃ da : ByteArray, (⟨(Lib.decDigits a.toNat).toArray⟩ : ByteArray) = da := ⟨_, rfl⟩
      have hdl : da.data.toList = Lib.decDigits a.toNat := by rw [← hda]
      have hds : da.size ≤ 20 := by
        have e2 : da.data.toList.length = da.size := by simp
        rw [← e2, hdl, Lib.decDigits_length]; exact nDigits_of_lt 20 _ (by decide) (by omega)
      have DG := Lib.hid (fun (w : World) => digits5_any a (by omega) (by omega) w)
      rw [hda] at DG
      have HSO : Hid ((nb ++ ({ data := #[64] } : ByteArray) ++ da).data.toList = nmL e ++ 64 :: (Lib.decDigits a.toNat ++ pthL (p.take 0))) := Lib.hid (by
        simp [hnl, hdl, pthL])
      have H0 := Lib.hid h0
      have hs1 : nb.size + 1 ≤ 7 := by omega
      have hs2 : nb.size + 1 + da.size ≤ 27 := by omega
      clear h0 hns hnl hb0 hda hdl
      go_enter Tryd.func16, Tryd.ntmps16
      go_wp2_with fail
      with_reducible refine (NM.out _).mono ?_
      rintro e w1 ⟨rfl, hb1⟩
      have c1_0 : w1.cell? ⟨w.heap.size, 1, none⟩ = some (.int .i64 a) := (hb1.cell (p := ⟨w.heap.size, 1, none⟩) (by first | assumption | (simp; done) | (simp; omega))).trans (by first | assumption | (simp [go_sem]; done) | (simp [go_sem, *]; done))
      have c1_1 : w1.cell? ⟨w.heap.size, 2, none⟩ = some (.slice ad n c) := (hb1.cell (p := ⟨w.heap.size, 2, none⟩) (by first | assumption | (simp; done) | (simp; omega))).trans (by first | assumption | (simp [go_sem]; done) | (simp [go_sem, *]; done))
      have hl1_0 : w.heap.size < w1.heap.size := by have hs := hb1.size; first | (simp at hs; omega) | omega
      have hw1 : Below w.heap.size w w1 := Below.trans (by repeat' (first | (with_reducible assumption) | (with_reducible exact Below.refl _ _) | (with_reducible refine below_drewN ?_ _) | (with_reducible refine Below.drew ?_) | (with_reducible refine Below.setCell ?_ ?_ _) | (with_reducible refine Below.alloc ?_ ?_ _) | omega | (simp; done) | (simp; omega))) (hb1.mono (by first | assumption | (simp; done) | (simp; omega)))
      have hz1 := hw1.size
      clear hb1
      go_wp2_with fail
      with_reducible refine (DG.out _).mono ?_
      rintro e w2 ⟨rfl, hb2⟩
      have c2_0 : w2.cell? ⟨w.heap.size, 1, none⟩ = some (.int .i64 a) := (hb2.cell (p := ⟨w.heap.size, 1, none⟩) (by first | assumption | (simp; done) | (simp; omega))).trans (by first | assumption | (simp [go_sem]; done) | (simp [go_sem, *]; done))
      have c2_1 : w2.cell? ⟨w.heap.size, 2, none⟩ = some (.slice ad n c) := (hb2.cell (p := ⟨w.heap.size, 2, none⟩) (by first | assumption | (simp; done) | (simp; omega))).trans (by first | assumption | (simp [go_sem]; done) | (simp [go_sem, *]; done))
      have hl2_0 : w.heap.size < w2.heap.size := by have hs := hb2.size; first | (simp at hs; omega) | omega
      have hw2 : Below w.heap.size w w2 := Below.trans (by repeat' (first | (with_reducible assumption) | (with_reducible exact Below.refl _ _) | (with_reducible refine below_drewN ?_ _) | (with_reducible refine Below.drew ?_) | (with_reducible refine Below.setCell ?_ ?_ _) | (with_reducible refine Below.alloc ?_ ?_ _) | omega | (simp; done) | (simp; omega))) (hb2.mono (by first | assumption | (simp; done) | (simp; omega)))
      have hz2 := hw2.size
      clear hb2
      go_wp2_with fail
      have HW2 := Lib.hid hw2
      go_loopw [3, 4] (fun t i wr => ∃ (K : Nat) (tb : ByteArray), t = .string tb ∧ i = .int .i64 K ∧ K ≤ n ∧ Hid (tb.data.toList = nmL e ++ 64 :: (Lib.decDigits a.toNat ++ pthL (p.take K))) ∧ tb.size ≤ 27 + 21 * K ∧ Hid (∀ v ∈ p.take K, 0 ≤ v) ∧ Below w.heap.size w wr  ∧ wr.cell? ⟨w.heap.size, 2, none⟩ = some (.slice ad n c) ∧ w.heap.size < wr.heap.size) (fun _ i _ => n - (intOf i).toNat)
      case atStart =>
        refine ⟨0, _, rfl, rfl, Nat.zero_le _, HSO, ?_, Lib.hid (by simp), hw2, c2_1, hl2_0⟩
        have e1 : ({ data := #[64] } : ByteArray).size = 1 := rfl
        rw [ByteArray.size_append, ByteArray.size_append, e1]; omega
      case round =>
        obtain ⟨K, tb, rfl, rfl, hK, HTB, htb, HPO, hbw, hcs, hls⟩ := hrel
        have hzr := hbw.size
        clear HSO DG NM hw1 hw2
        by_cases hlt : K < n
        · obtain ⟨x, rfl, hl, hcx⟩ := HS.out.beyond hbw K hlt
          have hmem : gp p K ∈ p := by
            have := HN.out
            unfold gp
            rw [List.getD_eq_getElem?_getD, List.getElem?_eq_getElem (by omega)]
            exact List.getElem_mem _
          have v1 := HP.out _ hmem
          have HTK : Hid (p.take (K + 1) = p.take K ++ [gp p K]) := Lib.hid (by
            have := HN.out
            rw [List.take_succ_eq_append_getElem (by omega)]
            unfold gp
            rw [List.getD_eq_getElem?_getD, List.getElem?_eq_getElem (by omega)]; rfl)
          have k0 : (0 : Int) ≤ (K : Int) := by omega
          have k1 : (K : Int) < (n : Int) := by omega
          have HM := Lib.hid hmem
          clear hmem
          generalize gp p K = v at *
          by_cases hv : v < 0
          · have HF : Hid (O = { data := #[] }) := Lib.hid (by rw [← HO.out]; unfold txtL; rw [if_pos (Or.inr (Or.inr ⟨v, HM.out, hv⟩))])
            go_wp2_with fail
            go_ret
            exact ⟨ret_sb HF.out.symm, hbw⟩
          · obtain ⟨dv, hdv⟩ : ∃ dv : ByteArray, (⟨(Lib.decDigits v.toNat).toArray⟩ : ByteArray) = dv := ⟨_, rfl⟩
            have hdl : dv.data.toList = Lib.decDigits v.toNat := by rw [← hdv]
            have hdv2 : dv.size ≤ 20 := by
              have e2 : dv.data.toList.length = dv.size := by simp
              rw [← e2, hdl, Lib.decDigits_length]; exact nDigits_of_lt 20 _ (by decide) (by omega)
            have DV := Lib.hid (fun (w : World) => digits5_any v (by omega) (by omega) w)
            rw [hdv] at DV
            have HNX : Hid ((tb ++ ({ data := #[47] } : ByteArray) ++ dv).data.toList = nmL e ++ 64 :: (Lib.decDigits a.toNat ++ pthL (p.take (K + 1)))) := Lib.hid (by
              rw [HTK.out, pthL_snoc]; simp [HTB.out, hdl])
            have HPX : Hid (∀ v ∈ p.take (K + 1), 0 ≤ v) := Lib.hid (by
              intro u hu
              rw [HTK.out] at hu
              rcases List.mem_append.1 hu with h | h
              · exact HPO.out u h
              · rw [List.mem_singleton.1 h]; omega)
            have hs1 : tb.size + 1 ≤ 200000 := by omega
            have hs2 : tb.size + 1 + dv.size ≤ 27 + 21 * (K + 1) := by omega
            have hs3 : tb.size + 1 + dv.size ≤ 200000 := by omega
            clear hdl hdv
            go_wp2_with fail
            with_reducible refine (DV.out _).mono ?_
            rintro e w3 ⟨rfl, hb3⟩
            have c3_0 : w3.cell? ⟨w.heap.size, 2, none⟩ = some (.slice (some x) n c) := (hb3.cell (p := ⟨w.heap.size, 2, none⟩) (by first | assumption | (simp; done) | (simp; omega))).trans (by first | assumption | (simp [go_sem]; done) | (simp [go_sem, *]; done))
            have hl3_0 : w.heap.size < w3.heap.size := by have hs := hb3.size; first | (simp at hs; omega) | omega
            have hw3 : Below w.heap.size w w3 := Below.trans (by repeat' (first | (with_reducible assumption) | (with_reducible exact Below.refl _ _) | (with_reducible refine below_drewN ?_ _) | (with_reducible refine Below.drew ?_) | (with_reducible refine Below.setCell ?_ ?_ _) | (with_reducible refine Below.alloc ?_ ?_ _) | omega | (simp; done) | (simp; omega))) (hb3.mono (by first | assumption | (simp; done) | (simp; omega)))
            have hz3 := hw3.size
            clear hb3
            go_wp2_with fail
            go_roundw
            case rel => 
              refine ⟨K + 1, _, rfl, by go_num, by omega, HNX, ?_, HPX, by repeat' (first | (with_reducible assumption) | (with_reducible exact Below.refl _ _) | (with_reducible refine below_drewN ?_ _) | (with_reducible refine Below.drew ?_) | (with_reducible refine Below.setCell ?_ ?_ _) | (with_reducible refine Below.alloc ?_ ?_ _) | omega | (simp; done) | (simp; omega)), c3_0, hl3_0⟩
              have e1 : ({ data := #[47] } : ByteArray).size = 1 := rfl
              rw [ByteArray.size_append, ByteArray.size_append, e1]; omega
            case measure => simp [intOf]; omega
        · have hKe : p.take K = p := List.take_of_length_le (by have := HN.out; omega)
          have HF : Hid (tb = O) := Lib.hid (by
            refine str_ext ?_
            rw [HTB.out, hKe, ← HO.out]
            have hpo := HPO.out
            rw [hKe] at hpo
            unfold txtL
            rw [if_neg]
            rintro (h | h | ⟨v, hv, h⟩)
            · exact H0.out h
            · omega
            · have := hpo v hv; omega)
          clear hKe
          go_wp2_with fail
          go_ret
          exact ⟨ret_sb HF.out, hbw⟩
end Go.Proofs.YthaphecoalepgaaDoor
