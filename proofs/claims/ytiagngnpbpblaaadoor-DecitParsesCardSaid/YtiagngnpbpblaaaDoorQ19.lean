/- The reference's literal. Condition: a text of at most 1000 bytes. -/
import Derived.Test.YtiagngnpbpblaaaDoorQ18
namespace Go.Proofs.YtiagngnpbpblaaaDoor
open Go.RowKit
set_option linter.unusedSimpArgs false
set_option linter.unusedVariables false

/-- What literal tells. -/
def LitRet (l : List UInt8) (e : Ending) : Prop := (litOk (stripS l) = true ∧ e = .returned (.tuple #[.string ⟨(litCore (stripS l)).toArray⟩, .int .i64 (litE (litT (stripS l)) - litBeh (stripS l)), .bool (hdIs l 45 45), .bool true])) ∨ (litOk (stripS l) = false ∧ ∃ a b c, e = .returned (.tuple #[.string a, .int .i64 b, .bool c, .bool false]))
theorem hd_swap (l : List UInt8) (c d : Int) : hdIs l c d = hdIs l d c := by
  cases l with
  | nil => rfl
  | cons x l => exact Bool.or_comm _ _
theorem strip_if (s : ByteArray) : (if hdIs s.data.toList 43 45 then s.extract 1 s.size else s).data.toList = stripS s.data.toList := by
  unfold stripS
  split
  · rw [ext_rest, List.drop_one]
  · rfl
theorem hd_pos {s : ByteArray} {c d : Int} (h : hdIs s.data.toList c d = true) : 0 < s.size := by
  rcases Nat.eq_zero_or_pos s.size with h0 | h0
  · rw [List.eq_nil_of_length_eq_zero (show s.data.toList.length = 0 by rw [← h0]; simp)] at h; cases h
  · exact h0
theorem expS_snoc (l : List UInt8) (c : UInt8) (h : isD c = true) : expS (l ++ [c]) = min (expS l * 10 + ((c.toNat : Int) - 48)) 100000 := by
  unfold expS
  rw [decVal_snoc]
  unfold isD at h
  rw [Bool.and_eq_true, decide_eq_true_eq] at h
  omega
theorem expS_bd (l : List UInt8) : 0 ≤ expS l ∧ expS l ≤ 100000 := by unfold expS; omega
theorem list_empty (s : ByteArray) : s.data.toList.isEmpty = decide (s.size = 0) := by
  rw [← isEmpty_size, ByteArray.toList_eq]
theorem litE_bd (r : List UInt8) : -100000 ≤ litE r ∧ litE r ≤ 100000 := by
  unfold litE
  have h := expS_bd ((stripS r.tail).take (runL (stripS r.tail)))
  split
  · split <;> omega
  · omega
theorem run_digit {l : List UInt8} {K : Nat} (h : K < runL l) (h2 : K < l.length) : isD l[K] = true := by
  obtain ⟨m, r, e, ha, hr, hl, hd⟩ := run_split l
  have hm : K < m.length := by omega
  have e2 : l[K] = m[K] := by
    subst e
    exact List.getElem_append_left hm
  rw [e2]
  exact List.all_eq_true.1 ha _ (List.getElem_mem hm)
set_option maxHeartbeats 6400000 in
set_option maxRecDepth 100000 in
theorem literal6_any (s : ByteArray) (hs : s.size ≤ 1000) (w : World) :
    Calls Tryd.prog 14 #[.string s] w fun e w' => LitRet s.data.toList e ∧ w = w' := by
  obtain ⟨L, hLe⟩ : ∃ L, s.data.toList = L := ⟨_, rfl⟩
  obtain ⟨ng, hng⟩ : ∃ b, hdIs L 45 45 = b := ⟨_, rfl⟩
  obtain ⟨sb, hsb⟩ : ∃ b, hdIs L 43 45 = b := ⟨_, rfl⟩
  obtain ⟨t, ht⟩ : ∃ t : ByteArray, t = if sb then s.extract 1 s.size else s := ⟨_, rfl⟩
  have htl : t.data.toList = stripS L := by
    have := strip_if s
    rw [hLe, hsb] at this
    rw [ht]; exact this
  have hts : t.size ≤ 1000 := by
    rw [ht]; split
    · rw [ByteArray.size_extract]; omega
    · exact hs
  have hn45 : hdIs s.data.toList 45 45 = ng := by rw [hLe]; exact hng
  have hn43 : hdIs s.data.toList 45 43 = sb := by rw [hLe, hd_swap]; exact hsb
  rw [hLe]
  have HNG := Lib.hid hng
  have HT := Lib.hid ht
  have HTL := Lib.hid htl
  have HSB := Lib.hid hsb
  have HLE := Lib.hid hLe
  have H43 := Lib.hid hn43
  have H45 := Lib.hid hn45
  clear hng ht htl hLe hn45 hn43 hsb
  go_enter Tryd.func14, Tryd.ntmps14
  go_upto_region 1 with fail
  go_cut [6] (fun x W => x = .bool ng ∧ w = W)
  case first =>
    have h1 := H45.out
    rcases two_ways s 45 45 with ⟨q0, q1⟩ | ⟨q0, q1, q2, q3⟩ | ⟨q0, q1, q2⟩ | ⟨q0, q1, q2, q3⟩
    all_goals first
      | (exfalso; rw [q2] at q3; exact absurd q3 (by decide))
      | (rw [q1] at h1
         subst h1
         clear q1
         go_wp2_with fail
         go_meet
         exact ⟨rfl, rfl⟩)
  case rest =>
  obtain ⟨rfl, rfl⟩ := hcut
  go_upto_region 2 with fail
  go_cut [33] (fun x W => x = .bool sb ∧ w = W)
  case first =>
    have h1 := H43.out
    rcases two_ways s 45 43 with ⟨q0, q1⟩ | ⟨q0, q1, q2, q3⟩ | ⟨q0, q1, q2⟩ | ⟨q0, q1, q2, q3⟩
    all_goals
      rw [q1] at h1
      subst h1
      clear q1
      go_wp2_with fail
      go_meet
      exact ⟨rfl, rfl⟩
  case rest =>
  obtain ⟨rfl, rfl⟩ := hcut
  go_upto_if 33 with fail
  go_cut [0] (fun x W => x = .string t ∧ w = W)
  case first =>
    have ht0 := HT.out
    have h43 := HSB.out
    cases sb
    · obtain rfl : t = s := ht0
      go_wp2_with fail
      go_meet
      exact ⟨rfl, rfl⟩
    · obtain rfl : t = s.extract 1 s.size := ht0
      have q0 : 0 < s.size := hd_pos (by rw [HLE.out]; exact h43)
      have q0i : (1 : Int) ≤ (s.size : Int) := by omega
      clear h43
      go_wp2_with fail
      go_meet
      exact ⟨rfl, rfl⟩
  case rest =>
  obtain ⟨rfl, rfl⟩ := hcut
  clear HT HSB H43 H45 HLE
  have R1 := Lib.hid (fun (w : World) => refRun6_any t (by omega) w)
  have hnl := runL_le t.data.toList
  have htn : t.data.toList.length = t.size := by simp
  obtain ⟨n1, hn1⟩ : ∃ n, runL t.data.toList = n := ⟨_, rfl⟩
  rw [hn1] at R1 hnl
  rw [htn] at hnl
  obtain ⟨c1, hc1⟩ : ∃ c1 : ByteArray, t.extract 0 n1 = c1 := ⟨_, rfl⟩
  obtain ⟨t1, ht1⟩ : ∃ t1 : ByteArray, t.extract n1 t.size = t1 := ⟨_, rfl⟩
  have hc1l : c1.data.toList = (stripS L).take (runL (stripS L)) := by rw [← hc1, ext_head, ← HTL.out, hn1]
  have ht1l : t1.data.toList = (stripS L).drop (runL (stripS L)) := by rw [← ht1, ext_rest, ← HTL.out, hn1]
  have hc1s : c1.size ≤ 1000 := by rw [← hc1, ByteArray.size_extract]; omega
  have ht1s : t1.size ≤ 1000 := by rw [← ht1, ByteArray.size_extract]; omega
  have HC1 := Lib.hid hc1l
  have HT1 := Lib.hid ht1l
  clear hc1l ht1l htn
  have HN1 := Lib.hid hn1
  clear hn1
  go_wp2_with fail
  with_reducible refine (R1.out _).mono ?_
  rintro e w' ⟨rfl, rfl⟩
  go_upto_region 8 with fail
  clear hc1 ht1
  obtain ⟨pt, hpt⟩ : ∃ b, hdIs t1.data.toList 46 46 = b := ⟨_, rfl⟩
  have HPT := Lib.hid hpt
  clear hpt
  go_cut [51] (fun x W => x = .bool pt ∧ w = W)
  case first =>
    have h1 := HPT.out
    rcases two_ways t1 46 46 with ⟨q0, q1⟩ | ⟨q0, q1, q2, q3⟩ | ⟨q0, q1, q2⟩ | ⟨q0, q1, q2, q3⟩
    all_goals first
      | (exfalso; rw [q2] at q3; exact absurd q3 (by decide))
      | (rw [q1] at h1
         subst h1
         clear q1
         go_wp2_with fail
         go_meet
         exact ⟨rfl, rfl⟩)
  case rest =>
  obtain ⟨rfl, rfl⟩ := hcut
  obtain ⟨U, hU⟩ : ∃ U, t1.data.toList.tail = U := ⟨_, rfl⟩
  obtain ⟨n2, hn2⟩ : ∃ n, runL U = n := ⟨_, rfl⟩
  obtain ⟨d, hd⟩ : ∃ d : ByteArray, t1.extract 1 (1 + n2) = d := ⟨_, rfl⟩
  obtain ⟨C, hC⟩ : ∃ C : ByteArray, C = if pt then c1 ++ d else c1 := ⟨_, rfl⟩
  obtain ⟨B, hB⟩ : ∃ B : Nat, B = if pt then n2 else 0 := ⟨_, rfl⟩
  obtain ⟨t2, ht2⟩ : ∃ t2 : ByteArray, t2 = if pt then t1.extract (1 + n2) t1.size else t1 := ⟨_, rfl⟩
  have hUl : U.length ≤ t1.size - 1 := by
    have e : t1.data.toList.length = t1.size := by simp
    rw [← hU, List.length_tail]; omega
  have hn2U : n2 ≤ U.length := by rw [← hn2]; exact runL_le U
  have hdl : d.data.toList = U.take n2 := by rw [← hd, ext_list, List.drop_one, hU, Nat.add_sub_cancel_left]
  have hds : d.size ≤ 1000 := by rw [← hd, ByteArray.size_extract]; omega
  have hlb : litB t1.data.toList = if pt then U.take n2 else [] := by unfold litB; rw [HPT.out, hU, hn2]
  have hlr : litR t1.data.toList = if pt then U.drop n2 else t1.data.toList := by unfold litR; rw [HPT.out, hU, hn2]
  have HCL : Hid (C.data.toList = litCore (stripS L)) := Lib.hid (by
    unfold litCore
    rw [← HC1.out, ← HT1.out, hlb, hC]
    cases pt
    · simp
    · rw [if_pos rfl, if_pos rfl, ByteArray.data_append, Array.toList_append, hdl])
  have HBL : Hid ((B : Int) = litBeh (stripS L)) := Lib.hid (by
    unfold litBeh
    rw [← HT1.out, hlb, hB]
    cases pt
    · rfl
    · rw [if_pos rfl, if_pos rfl, List.length_take]; omega)
  have HT2 : Hid (t2.data.toList = litT (stripS L)) := Lib.hid (by
    unfold litT
    rw [← HT1.out, hlr, ht2]
    cases pt
    · rfl
    · rw [if_pos rfl, if_pos rfl, ext_rest, ← hU, List.drop_tail, Nat.add_comm])
  have hCs : C.size ≤ 2000 := by
    rw [hC]; split
    · rw [ByteArray.size_append]; omega
    · omega
  have ht2s : t2.size ≤ 1000 := by
    rw [ht2]; split
    · rw [ByteArray.size_extract]; omega
    · exact ht1s
  have hcd : c1.size + d.size ≤ 2000 := by omega
  have hBs : B ≤ 1000 := by rw [hB]; split <;> omega
  have R2 : Hid (pt = true → ∀ w, Calls Tryd.prog 42 #[.string (t1.extract 1 t1.size)] w fun e w' => e = .returned (.int .i64 (n2 : Int)) ∧ w = w') := Lib.hid (fun _ w => by
    have h := refRun6_any (t1.extract 1 t1.size) (by rw [ByteArray.size_extract]; omega) w
    rw [ext_rest, List.drop_one, hU, hn2] at h
    exact h)
  have HQ := Lib.hid (⟨hC, hB, ht2⟩ : C = (if pt then c1 ++ d else c1) ∧ B = (if pt then n2 else 0) ∧ t2 = (if pt then t1.extract (1 + n2) t1.size else t1))
  have HD := Lib.hid hd
  have hn2s : pt = true → 1 + n2 ≤ t1.size := fun h => by
    have q := hd_pos (h ▸ HPT.out : hdIs t1.data.toList 46 46 = true)
    omega
  have HN2 := Lib.hid hn2s
  clear hU hn2 hd hC hB ht2 hUl hn2U hdl hlb hlr hn2s
  go_upto_if 51 with fail
  go_cut [0, 8, 9] (fun z x y W => z = .string t2 ∧ x = .string C ∧ y = .int .i64 B ∧ w = W)
  case first =>
    obtain ⟨k1, k2, k3⟩ := HQ.out
    have R2v := R2.out
    have hn2v := HN2.out
    have hdv := HD.out
    cases pt
    · obtain rfl : C = c1 := k1
      obtain rfl : B = 0 := k2
      obtain rfl : t2 = t1 := k3
      clear R2v hn2v hdv
      go_wp2_with fail
      go_meet
      exact ⟨rfl, rfl, rfl, rfl⟩
    · obtain rfl : C = c1 ++ d := k1
      obtain rfl : B = n2 := k2
      obtain rfl : t2 = t1.extract (1 + B) t1.size := k3
      have R3 := Lib.hid (R2v rfl)
      have hb1 := hn2v rfl
      have hb2 : (1 : Int) ≤ (t1.size : Int) := by omega
      have hb3 : (1 : Int) + (B : Int) ≤ (t1.size : Int) := by omega
      clear R2v hn2v
      go_wp2_with fail
      with_reducible refine (R3.out _).mono ?_
      rintro e w' ⟨rfl, rfl⟩
      go_wp2_with fail
      go_meet
      exact ⟨by first | rfl | (simp; done), by first | rfl | (simp; done), by first | rfl | (simp; done), rfl⟩
  case rest =>
  obtain ⟨rfl, rfl, rfl, rfl⟩ := hcut
  clear HQ HD HN2 R2 hcd hds
  have HCA : Hid ((⟨(litCore (stripS L)).toArray⟩ : ByteArray) = C) := Lib.hid (str_ext HCL.out.symm)
  have hCe := isEmpty_size C
  by_cases hC0 : C.size = 0
  · rw [decide_eq_true hC0] at hCe
    have HNO : Hid (litOk (stripS L) = false) := Lib.hid (by
      unfold litOk
      have h := list_empty C
      rw [decide_eq_true hC0, HCL.out] at h
      rw [h]; rfl)
    clear hC0
    go_wp2_with fail
    refine bodyPost_ret (v := .tuple #[.string { data := #[] }, .int .i64 0, .bool false, .bool false]) (by simp (maxDischargeDepth := 6) [results, Tryd.results14, go_sem]) rfl ?_
    exact ⟨Or.inr ⟨HNO.out, _, _, _, rfl⟩, rfl⟩
  · rw [decide_eq_false hC0] at hCe
    have HCN : Hid ((litCore (stripS L)).isEmpty = false) := Lib.hid (by
      have h := list_empty C
      rw [decide_eq_false hC0, HCL.out] at h
      exact h)
    clear hC0
    obtain ⟨ex, hex⟩ : ∃ b, hdIs t2.data.toList 101 69 = b := ⟨_, rfl⟩
    have HEX := Lib.hid hex
    clear hex
    go_upto_region 15 with fail
    clear hCe
    go_cut [79] (fun x W => x = .bool ex ∧ w = W)
    case first =>
      have h1 := HEX.out
      rcases two_ways t2 101 69 with ⟨q0, q1⟩ | ⟨q0, q1, q2, q3⟩ | ⟨q0, q1, q2⟩ | ⟨q0, q1, q2, q3⟩
      all_goals
        rw [q1] at h1
        subst h1
        clear q1
        go_wp2_with fail
        go_meet
        exact ⟨rfl, rfl⟩
    case rest =>
    obtain ⟨rfl, rfl⟩ := hcut
    obtain ⟨E, hE⟩ : ∃ E, litE (litT (stripS L)) = E := ⟨_, rfl⟩
    have hEb := litE_bd (litT (stripS L))
    rw [hE] at hEb
    have HE := Lib.hid hE
    clear hE
    go_upto_if 79 with fail
    go_cut [0, 10] (fun z x W => ∃ t3 : ByteArray, z = .string t3 ∧ x = .int .i64 E ∧ Hid (litOkE (litT (stripS L)) = decide (t3.size = 0)) ∧ w = W)
    case first =>
      have h1 := HEX.out
      cases ex
      · have hE0 : E = 0 := by
          rw [← HE.out, ← HT2.out]; unfold litE; rw [h1]; rfl
        have HOE : Hid (litOkE (litT (stripS L)) = decide (t2.size = 0)) := Lib.hid (by
          rw [← HT2.out]; unfold litOkE; rw [h1, ← list_empty]; rfl)
        subst hE0
        clear h1
        go_wp2_with fail
        go_meet
        exact ⟨_, rfl, rfl, HOE, rfl⟩
      · have q0 := hd_pos h1
        obtain ⟨p0, hp0⟩ : ∃ p0 : ByteArray, t2.extract 1 t2.size = p0 := ⟨_, rfl⟩
        have hp0l : p0.data.toList = t2.data.toList.tail := by rw [← hp0, ext_rest, List.drop_one]
        have hp0s : p0.size ≤ 1000 := by rw [← hp0, ByteArray.size_extract]; omega
        obtain ⟨dn, hdn⟩ : ∃ b, hdIs p0.data.toList 45 45 = b := ⟨_, rfl⟩
        obtain ⟨sg, hsg⟩ : ∃ b, hdIs p0.data.toList 45 43 = b := ⟨_, rfl⟩
        obtain ⟨p, hp⟩ : ∃ p : ByteArray, p = if sg then p0.extract 1 p0.size else p0 := ⟨_, rfl⟩
        have hpl : p.data.toList = stripS t2.data.toList.tail := by
          have h := strip_if p0
          rw [hd_swap, hsg, hp0l] at h
          rw [hp]; exact h
        have hps : p.size ≤ 1000 := by
          rw [hp]; split
          · rw [ByteArray.size_extract]; omega
          · exact hp0s
        obtain ⟨n3, hn3⟩ : ∃ n, runL p.data.toList = n := ⟨_, rfl⟩
        have hPl : p.data.toList.length = p.size := by simp
        have hn3l : n3 ≤ p.size := by rw [← hn3, ← hPl]; exact runL_le _
        have R3 := Lib.hid (fun (w : World) => refRun6_any p (by omega) w)
        rw [hn3] at R3
        have HEV : Hid (E = if dn then -expS (p.data.toList.take n3) else expS (p.data.toList.take n3)) := Lib.hid (by
          rw [← HE.out, ← HT2.out]
          unfold litE
          rw [h1, if_pos rfl, ← hpl, ← hp0l, hdn, hn3])
        have HOE : Hid (litOkE (litT (stripS L)) = (decide (n3 ≠ 0) && decide ((p.extract n3 p.size).size = 0))) := Lib.hid (by
          rw [← HT2.out]
          unfold litOkE
          rw [h1, if_pos rfl, ← hpl, hn3, ← list_empty, ext_rest])
        have HDG : Hid (∀ K (h : K < n3) (h2 : K < p.size), isD (p[K]'h2) = true) := Lib.hid (fun K h h2 => by
          have h3 : K < p.data.toList.length := by rw [hPl]; exact h2
          have h4 := run_digit (l := p.data.toList) (K := K) (by rw [hn3]; exact h) h3
          exact h4)
        have HPN := Lib.hid hPl
        have HDN := Lib.hid hdn
        have HSG := Lib.hid hsg
        have HP := Lib.hid hp
        have q0i : (1 : Int) ≤ (t2.size : Int) := by omega
        clear hp0l hdn hsg hp hpl hn3 hPl h1
        go_upto_region 17 with fail
        clear hp0
        go_cut [11] (fun x W => x = .bool dn ∧ w = W)
        case first =>
          have h1 := HDN.out
          rcases two_ways p0 45 45 with ⟨q0, q1⟩ | ⟨q0, q1, q2, q3⟩ | ⟨q0, q1, q2⟩ | ⟨q0, q1, q2, q3⟩
          all_goals first
            | (exfalso; rw [q2] at q3; exact absurd q3 (by decide))
            | (rw [q1] at h1
               subst h1
               clear q1
               go_wp2_with fail
               go_meet
               exact ⟨rfl, rfl⟩)
        case rest =>
        obtain ⟨rfl, rfl⟩ := hcut
        go_upto_region 18 with fail
        go_cut [102] (fun x W => x = .bool sg ∧ w = W)
        case first =>
          have h1 := HSG.out
          rcases two_ways p0 45 43 with ⟨q0, q1⟩ | ⟨q0, q1, q2, q3⟩ | ⟨q0, q1, q2⟩ | ⟨q0, q1, q2, q3⟩
          all_goals
            rw [q1] at h1
            subst h1
            clear q1
            go_wp2_with fail
            go_meet
            exact ⟨rfl, rfl⟩
        case rest =>
        obtain ⟨rfl, rfl⟩ := hcut
        go_upto_if 102 with fail
        go_cut [0] (fun x W => x = .string p ∧ w = W)
        case first =>
          have k1 := HP.out
          have h1 := HSG.out
          cases sg
          · obtain rfl : p = p0 := k1
            clear h1
            go_wp2_with fail
            go_meet
            exact ⟨rfl, rfl⟩
          · obtain rfl : p = p0.extract 1 p0.size := k1
            have q2 := hd_pos h1
            have q2i : (1 : Int) ≤ (p0.size : Int) := by omega
            clear h1
            go_wp2_with fail
            go_meet
            exact ⟨rfl, rfl⟩
        case rest =>
        obtain ⟨rfl, rfl⟩ := hcut
        clear HDN HSG HP
        go_wp2_with fail
        with_reducible refine (R3.out _).mono ?_
        rintro e w' ⟨rfl, rfl⟩
        by_cases hz : n3 = 0
        · subst hz
          have HNO : Hid (litOk (stripS L) = false) := Lib.hid (by
            unfold litOk; rw [HOE.out]; simp)
          go_wp2_with fail
          refine bodyPost_ret (v := .tuple #[.string { data := #[] }, .int .i64 0, .bool false, .bool false]) (by simp (maxDischargeDepth := 6) [results, Tryd.results14, go_sem]) rfl ?_
          exact ⟨Or.inr ⟨HNO.out, _, _, _, rfl⟩, rfl⟩
        · have hzb : ((n3 : Int) == 0) = false := beq_eq_false_iff_ne.2 (by omega)
          have HOE2 : Hid (litOkE (litT (stripS L)) = decide ((p.extract n3 p.size).size = 0)) := Lib.hid (by
            rw [HOE.out, decide_eq_true hz, Bool.true_and])
          clear HOE hz
          go_wp2_with fail
          clear hzb
          go_loopw [10, 12] (fun x j W => ∃ (K : Nat) (v : Int), x = .int .i64 v ∧ j = .int .i64 K ∧ K ≤ n3 ∧ Hid (v = expS (p.data.toList.take K)) ∧ 0 ≤ v ∧ v ≤ 100000 ∧ w = W) (fun _ j _ => n3 - (intOf j).toNat)
          case atStart => exact ⟨0, 0, rfl, rfl, Nat.zero_le _, Lib.hid (by unfold expS; rfl), by decide, by decide, rfl⟩
          case round =>
            obtain ⟨K, v, rfl, rfl, hK, HV, v0, v1, rfl⟩ := hrel
            by_cases hlt : K < n3
            · have hlp : K < p.size := by omega
              have hd : isD p[K] = true := HDG.out K hlt hlp
              obtain ⟨d1, d2⟩ : 48 ≤ p[K].toNat ∧ p[K].toNat ≤ 57 := by
                unfold isD at hd
                rw [Bool.and_eq_true, decide_eq_true_eq, decide_eq_true_eq] at hd
                exact hd
              have hsub : IntKind.u8.wrap ((p[K].toNat : Int) - 48) = (p[K].toNat : Int) - 48 := IntWalk.u8_in _ (by omega)
              have HV2 : Hid (min (v * 10 + ((p[K].toNat : Int) - 48)) 100000 = expS (p.data.toList.take (K + 1))) := Lib.hid (by
                have h2 : K < p.data.toList.length := by rw [HPN.out]; exact hlp
                rw [List.take_succ_eq_append_getElem h2]
                have h3 : p.data.toList[K] = p[K] := rfl
                rw [h3, expS_snoc _ _ hd, ← HV.out])
              clear hd
              have hmm := expS_bd (p.data.toList.take (K + 1))
              rw [← HV2.out] at hmm
              go_wp2_with fail
              go_roundw
              case rel => exact ⟨K + 1, _, rfl, by go_num, by omega, HV2, hmm.1, hmm.2, by first | rfl | trivial⟩
              case measure => first | (simp [intOf]; done) | (simp [intOf]; omega)
            · obtain rfl : K = n3 := by omega
              have he := HEV.out
              rw [← HV.out] at he
              cases dn
              · obtain rfl : E = v := he
                go_wp2_with fail
                go_meet
                exact ⟨_, rfl, rfl, HOE2, rfl⟩
              · obtain rfl : E = -v := he
                go_wp2_with fail
                go_meet
                exact ⟨_, rfl, rfl, HOE2, rfl⟩
    case rest =>
    obtain ⟨t3, rfl, rfl, HOE, rfl⟩ := hcut
    have hT3 := isEmpty_size t3
    obtain ⟨hE0, hE1⟩ := hEb
    by_cases h0 : t3.size = 0
    · rw [decide_eq_true h0] at hT3
      have HOK : Hid (litOk (stripS L) = true) := Lib.hid (by
        unfold litOk; rw [HCN.out, HOE.out, decide_eq_true h0]; rfl)
      clear h0
      go_wp2_with fail
      refine bodyPost_ret (v := .tuple #[.string C, .int .i64 (E - B), .bool ng, .bool true]) (by simp (maxDischargeDepth := 6) [results, Tryd.results14, go_sem]) rfl ?_
      refine ⟨Or.inl ⟨HOK.out, ?_⟩, rfl⟩
      rw [HCA.out, HE.out, ← HBL.out, HNG.out]
    · rw [decide_eq_false h0] at hT3
      have HNO : Hid (litOk (stripS L) = false) := Lib.hid (by
        unfold litOk; rw [HOE.out, decide_eq_false h0, Bool.and_false])
      clear h0
      go_wp2_with fail
      refine bodyPost_ret (v := .tuple #[.string C, .int .i64 (E - B), .bool ng, .bool false]) (by simp (maxDischargeDepth := 6) [results, Tryd.results14, go_sem]) rfl ?_
      exact ⟨Or.inr ⟨HNO.out, _, _, _, rfl⟩, rfl⟩
end Go.Proofs.YtiagngnpbpblaaaDoor
