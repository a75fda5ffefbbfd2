/- The contract of wide.Text: the digits. Condition: the table of powers of 10 is laid. -/
import Derived.Test.YtiagngnpbpblaaaDoorWd4
import Derived.Test.YtiagngnpbpblaaaDoorRText
import Derived.Outline
namespace Go.Proofs.YtiagngnpbpblaaaDoor
open Go.RowKit Go.Sort Go.Lib
set_option linter.unusedSimpArgs false
set_option linter.unusedVariables false

/-- What a round of Text keeps. -/
def TxtSo (V v : Nat) (T : List UInt8) : Prop := Lib.decDigits V = Lib.decDigits v ++ T ∧ (T ≠ [] → 1 ≤ v) ∧ T.length ≤ 38 ∧ V < 340282366920938463463374607431768211456
theorem txtSo_start (V : Nat) (h : V < 340282366920938463463374607431768211456) : TxtSo V V [] := ⟨by simp, fun h => absurd rfl h, Nat.zero_le _, h⟩
theorem txtSo_round {V v : Nat} {T : List UInt8} (h : TxtSo V v T) (hv : 10000000000000000000 ≤ v) : TxtSo V (v / 10000000000000000000) (List.replicate (19 - Lib.nDigits (v % 10000000000000000000)) 48 ++ Lib.decDigits (v % 10000000000000000000) ++ T) := by
  obtain ⟨h1, h2, h3, h4⟩ := h
  have e := dec_cut 19 (v / 10000000000000000000) (v % 10000000000000000000) (by omega) (by omega)
  rw [show v / 10000000000000000000 * 10 ^ 19 + v % 10000000000000000000 = v by omega] at e
  have hp := padK_eq 19 (v % 10000000000000000000) (by decide) (by omega)
  have hl := padK_length 19 (v % 10000000000000000000)
  rw [hp] at e hl
  have hE : Lib.decDigits V = Lib.decDigits (v / 10000000000000000000) ++ (List.replicate (19 - Lib.nDigits (v % 10000000000000000000)) 48 ++ Lib.decDigits (v % 10000000000000000000) ++ T) := by
    rw [h1, e]; simp only [List.append_assoc]
  refine ⟨hE, fun _ => by omega, ?_, h4⟩
  have hV := dec_len39 V h4
  rw [hE, List.length_append, Lib.decDigits_length] at hV
  have := Lib.nDigits_pos (v / 10000000000000000000)
  omega
theorem wideDiv_19 (h l : Int) (h0 : 0 ≤ h) (h1 : h ≤ 18446744073709551615) (l0 : 0 ≤ l) (l1 : l ≤ 18446744073709551615) : ∃ qh ql r : Int,
    0 ≤ qh ∧ qh ≤ 18446744073709551615 ∧ 0 ≤ ql ∧ ql ≤ 18446744073709551615 ∧ 0 ≤ r ∧ r ≤ 18446744073709551615 ∧ wN qh ql = wN h l / 10000000000000000000 ∧ r.toNat = wN h l % 10000000000000000000 ∧
    ∀ w, Calls Tryd.prog 50 #[.agg #[.int .u64 h, .int .u64 l], .int .u64 10000000000000000000] w fun e w' =>
      e = .returned (.tuple #[.agg #[.int .u64 qh, .int .u64 ql], .int .u64 r, .bool true]) ∧ Below w.heap.size w w' := by
  have hV := wV_bd h l h0 h1 l0 l1
  refine ⟨_, _, _, ?_, ?_, ?_, ?_, ?_, ?_, ?_, ?_, fun w => wideDiv_any h l 10000000000000000000 h0 h1 l0 l1 (by decide) (by decide) w⟩
  all_goals first | (unfold wN wV; omega) | (unfold wN; omega) | omega
theorem rep_any (c : Int) (c0 : 0 ≤ c) (c1 : c ≤ 19) : ∃ R : ByteArray, R.data.toList = List.replicate c.toNat 48 ∧ ∀ w, Calls Tryd.prog 12 #[.string { data := #[48] }, .int .i64 c] w fun e w' => e = .returned (.string R) ∧ Below w.heap.size w w' := by
  obtain ⟨n, rfl⟩ := Int.eq_ofNat_of_zero_le c0
  have hsz : ({ data := #[48] } : ByteArray).size = 1 := rfl
  refine ⟨⟨(Lib.repeatL ({ data := #[48] } : ByteArray).data.toList n).toArray⟩, ?_, fun w => Tryd.strings_Repeat { data := #[48] } n w (by omega) (by rw [hsz]; omega)⟩
  rw [Int.toNat_natCast]
  show Lib.repeatL [48] n = _
  clear c0 c1
  induction n with
  | zero => rfl
  | succ n ih => show [48] ++ Lib.repeatL [48] n = _; rw [ih]; rfl
theorem fmt_any (r : Int) (r0 : 0 ≤ r) (r1 : r ≤ 18446744073709551615) : ∃ S : ByteArray, S.data.toList = Lib.decDigits r.toNat ∧ ∀ w, PowTab w → Calls Tryd.prog 51 #[.int .u64 r, .int .i64 10] w fun e w' => e = .returned (.string S) ∧ Below w.heap.size w w' :=
  ⟨⟨(Lib.decDigits r.toNat).toArray⟩, rfl, fun w h => fmtUint_any r r0 r1 w h⟩
theorem decDigits_first (V : Nat) (c : UInt8) (m : List UInt8) (h : Lib.decDigits V = c :: m) (hm : m ≠ []) : c ≠ 48 := by
  rcases Nat.eq_zero_or_pos V with rfl | hV
  · rw [Lib.decDigits_one (by decide)] at h
    simp only [List.cons.injEq] at h
    exact absurd h.2.symm hm
  · obtain ⟨c', m', h', hc⟩ := decDigits_head V hV
    rw [h] at h'
    rw [(List.cons.inj h').1]
    exact hc
theorem first_of (t : ByteArray) (H : ∀ c m, t.data.toList = c :: m → m ≠ [] → c ≠ 48) : ∀ h : 0 < (t.extract 0 (t.size - 1)).size, (((t.extract 0 (t.size - 1))[0]'h).toNat : Int) ≠ 48 := by
  intro h
  have h2 : 2 ≤ t.size := by rw [ByteArray.size_extract] at h; omega
  have e : (t.extract 0 (t.size - 1))[0]'h = t[0]'(by omega) := by
    rw [ByteArray.getElem_extract]
  rw [e]
  cases hd : t.data.toList with
  | nil =>
    have : t.data.toList.length = t.size := by simp
    rw [hd] at this
    simp at this
    try omega
  | cons c m =>
    have hm : m ≠ [] := by
      rintro rfl
      have : t.data.toList.length = t.size := by simp
      rw [hd] at this
      simp at this
      try omega
    have h3 := H c m hd hm
    have h4 : t[0]'(by omega) = c := by
      have : t[0]'(by omega) = t.data.toList[0]'(by rw [hd]; simp) := rfl
      rw [this]
      simp [hd]
    rw [h4]
    intro h5
    apply h3
    apply UInt8.toNat_inj.1
    have h48 : (48 : UInt8).toNat = 48 := rfl
    omega
theorem ret_sw {a b : ByteArray} (h : a = b) : Ending.returned (.string a) = .returned (.string b) := by rw [h]
set_option maxHeartbeats 3200000 in
set_option maxRecDepth 100000 in
theorem wideText_any (h l : Int) (h0 : 0 ≤ h) (h1 : h ≤ 18446744073709551615) (l0 : 0 ≤ l) (l1 : l ≤ 18446744073709551615) (w : World) (htab : PowTab w) :
    Calls Tryd.prog 22 #[.agg #[.int .u64 h, .int .u64 l]] w fun e w' => e = .returned (.string ⟨(Lib.decDigits (wN h l)).toArray⟩) ∧ Below w.heap.size w w' := by
  have HT := Lib.hid htab
  clear htab
  obtain ⟨V, hV⟩ : ∃ V, V = wN h l := ⟨_, rfl⟩
  have hst := hide (txtSo_start V (by rw [hV]; have := wV_bd h l h0 h1 l0 l1; unfold wN; omega))
  have hle : Hid (wN h l ≤ V) := hide (by rw [hV]; exact Nat.le_refl _)
  have hst2 : Hid (TxtSo V (wN h l) []) := hide (by rw [← hV]; exact unhide hst)
  rw [← hV]
  clear hst hV
  go_enter Tryd.func22, Tryd.ntmps22
  go_wp2_with fail
  go_loopg [3] V (fun g t wr => ∃ (h l : Int) (tb : ByteArray), t = .string tb ∧ 0 ≤ h ∧ h ≤ 18446744073709551615 ∧ 0 ≤ l ∧ l ≤ 18446744073709551615 ∧ Hid (TxtSo V (wN h l) tb.data.toList) ∧ Hid (wN h l ≤ g) ∧
      wr.cell? ⟨w.heap.size, 0, none⟩ = some (.int .u64 h) ∧ wr.cell? ⟨w.heap.size, 1, none⟩ = some (.int .u64 l) ∧ wr.frozen? ⟨w.heap.size, 0, none⟩ = false ∧ wr.frozen? ⟨w.heap.size, 1, none⟩ = false ∧
      w.heap.size < wr.heap.size ∧ Below w.heap.size w wr)
  case atStart =>
    refine ⟨h, l, ⟨#[]⟩, rfl, h0, h1, l0, l1, hst2, hle, ?_⟩
    (repeat' apply And.intro) <;> first | (simp (maxDischargeDepth := 6) [go_sem]; done) | (simp; omega) | (repeat' (first | (with_reducible assumption) | (with_reducible exact Below.refl _ _) | (with_reducible refine below_drewN ?_ _) | (with_reducible refine Below.drew ?_) | (with_reducible refine Below.setCell ?_ ?_ _) | (with_reducible refine Below.alloc ?_ ?_ _) | omega | (simp; done) | (simp; omega)))
  case round =>
    clear hst2 hle h0 h1 l0 l1
    obtain ⟨x, y, tb, rfl, h0, h1, l0, l1, hso, hle, c0, c1, f0, f1, hz, hbw⟩ := hrel
    by_cases hh : x = 0
    · obtain ⟨S, eS, F⟩ := fmt_any y l0 l1
      have hcat : (S ++ tb).data.toList = Lib.decDigits V := by
        obtain ⟨e1, _, _, _⟩ := unhide hso
        rw [e1, show wN x y = y.toNat by unfold wN wV; omega, ← eS]; simp
      have hlen := dec_len39 V (unhide hso).2.2.2
      have hlen0 := Lib.nDigits_pos V
      rw [← Lib.decDigits_length] at hlen0
      have hhd : ∀ c m, Lib.decDigits V = c :: m → m ≠ [] → c ≠ 48 := decDigits_first V
      have HCAT := hide hcat
      rw [← hcat] at hlen hlen0 hhd
      have HHD := hide hhd
      have hlen2 : (S ++ tb).size ≤ 39 := by simpa using hlen
      have hlen3 : 1 ≤ (S ++ tb).size := by simpa using hlen0
      have F' := hide F
      have hss : S.size + tb.size ≤ 39 := by rw [← ByteArray.size_append]; exact hlen2
      clear hcat hlen hlen0 hhd F eS
      obtain ⟨t, ht⟩ : ∃ t, S ++ tb = t := ⟨_, rfl⟩
      rw [ht] at hlen2 hlen3 HCAT HHD
      have hcases : (tb.toList.isEmpty = true) ∨ (tb.toList.isEmpty = false ∧ (y != 0) = true) := by
        cases hE : tb.toList with
        | nil => exact Or.inl rfl
        | cons a m =>
          refine Or.inr ⟨rfl, bne_t ?_⟩
          obtain ⟨_, e2, _, _⟩ := unhide hso
          have := e2 (by rw [← ByteArray.toList_eq, hE]; exact List.cons_ne_nil _ _)
          unfold wN wV at this
          omega
      have hz1 : w.heap.size ≤ wr.heap.size := by omega
      have tl : ∀ w, Calls Tryd.prog 10 #[.string (t.extract 0 (t.size - 1)), .string { data := #[48] }] w fun e w' => e = .returned (.string (t.extract 0 (t.size - 1))) ∧ w' = w := fun w => (trimLeft_same (t.extract 0 (t.size - 1)) (by rw [ByteArray.size_extract]; omega) (first_of t (unhide HHD)) w).mono fun e w' ⟨he, hw⟩ => ⟨he, hw.symm⟩
      have TL := hide tl
      clear tl
      have hx1 : (t.extract 0 (t.size - 1)).size + (t.extract (t.size - 1) t.size).size ≤ 39 := by rw [ByteArray.size_extract, ByteArray.size_extract]; omega
      rcases hcases with hE | ⟨hE, hy⟩
      all_goals
        go_wp2_with fail
        with_reducible refine (unhide F' _ (tabIs_below HT.out (hbw.mono (Nat.le_refl _)))).mono ?_
        rintro e w1 ⟨rfl, hb⟩
        have hb1 := hbw.trans (hb.mono hz1)
        clear hb c0 c1 f0 f1 hbw
        go_wp2_with fail
        go_quiet ((go_at_call 10; exact Calls.quiet_of_same (unhide TL _)))
        go_wp2_with fail
        go_ret
        exact ⟨ret_sw (by rw [← unhide HCAT]), by repeat' (first | (with_reducible assumption) | (with_reducible exact Below.refl _ _) | (with_reducible refine below_drewN ?_ _) | (with_reducible refine Below.drew ?_) | (with_reducible refine Below.setCell ?_ ?_ _) | (with_reducible refine Below.alloc ?_ ?_ _) | omega | (simp; done) | (simp; omega))⟩
    · obtain ⟨qh, ql, r, q0, q1, q2, q3, r0, r1, eq, er, D⟩ := wideDiv_19 x y h0 h1 l0 l1
      obtain ⟨S, eS, F⟩ := fmt_any r r0 r1
      have hv19 : Hid (10000000000000000000 ≤ wN x y) := hide (by unfold wN wV; omega)
      have hk : Lib.nDigits r.toNat ≤ 19 := nDigits_of_lt 19 _ (by decide) (by rw [er]; omega)
      have hk0 := Lib.nDigits_pos r.toNat
      have hSk : S.size = Lib.nDigits r.toNat := by rw [← Lib.decDigits_length, ← eS]; simp
      obtain ⟨R, eR, P⟩ := rep_any (19 - (Lib.nDigits r.toNat : Int)) (by omega) (by omega)
      have eR2 : Hid (R.data.toList = List.replicate (19 - Lib.nDigits (wN x y % 10000000000000000000)) 48) := hide (by rw [eR, ← er]; congr 1; omega)
      have eS2 : Hid (S.data.toList = Lib.decDigits (wN x y % 10000000000000000000)) := hide (by rw [eS, er])
      have EQ := hide eq
      rw [← hSk] at P
      have hsz1 : S.size ≤ 19 := by rw [hSk]; exact hk
      have D' := hide D
      have F' := hide F
      have P' := hide P
      clear D F P eq er eS eR hSk hk hk0
      go_wp2_with fail
      with_reducible refine (unhide D' _).mono ?_
      rintro e w1 ⟨rfl, hb⟩
      have a0 := (hb.cell (p := ⟨w.heap.size, 0, none⟩) hz).trans c0
      have a1 := (hb.cell (p := ⟨w.heap.size, 1, none⟩) hz).trans c1
      have a2 := (hb.frozen (p := ⟨w.heap.size, 0, none⟩) hz).trans f0
      have a3 := (hb.frozen (p := ⟨w.heap.size, 1, none⟩) hz).trans f1
      have hz1 : w.heap.size < w1.heap.size := by have := hb.size; omega
      have hb1 := hbw.trans (hb.mono (by omega))
      clear hb c0 c1 f0 f1 hbw
      go_wp2_with fail
      have zz1 : w.heap.size < w1.heap.size + 1 := by omega
      with_reducible refine (unhide F' _ (tabIs_below HT.out (by repeat' (first | (with_reducible assumption) | (with_reducible exact Below.refl _ _) | (with_reducible refine below_drewN ?_ _) | (with_reducible refine Below.drew ?_) | (with_reducible refine Below.setCell ?_ ?_ _) | (with_reducible refine Below.alloc ?_ ?_ _) | omega | (simp; done) | (simp; omega))))).mono ?_
      rintro e w2 ⟨rfl, hb⟩
      obtain ⟨hc2, hf2, hs2⟩ := bfacts hb
      simp only [World.size_alloc] at hc2 hf2 hs2
      have hb2 : Below w.heap.size w w2 := by
        refine Below.trans ?_ (hb.mono ?_)
        · repeat' (first | (with_reducible assumption) | (with_reducible exact Below.refl _ _) | (with_reducible refine below_drewN ?_ _) | (with_reducible refine Below.drew ?_) | (with_reducible refine Below.setCell ?_ ?_ _) | (with_reducible refine Below.alloc ?_ ?_ _) | omega | (simp; done) | (simp; omega))
        · simp; omega
      have z1 : w.heap.size < w2.heap.size := by omega
      have z2 : w1.heap.size < w2.heap.size := by omega
      have z3 : w1.heap.size < w1.heap.size + 1 := by omega
      have z4 : ¬ w.heap.size = w1.heap.size := by omega
      have k0 : w2.cell? ⟨w1.heap.size, 0, none⟩ = some (.int .u64 qh) := (hc2 _ _ z3).trans (by simp [go_sem])
      have k1 : w2.cell? ⟨w1.heap.size, 1, none⟩ = some (.int .u64 ql) := (hc2 _ _ z3).trans (by simp [go_sem])
      have k2 : w2.frozen? ⟨w.heap.size, 0, none⟩ = false := (hf2 _ _ zz1).trans (by simp [go_sem, a2, hz1])
      have k3 : w2.frozen? ⟨w.heap.size, 1, none⟩ = false := (hf2 _ _ zz1).trans (by simp [go_sem, a3, hz1])
      have k4 : w2.cell? ⟨w.heap.size, 0, none⟩ = some (.int .u64 x) := (hc2 _ _ zz1).trans (by simp [go_sem, a0, hz1])
      have k5 : w2.cell? ⟨w.heap.size, 1, none⟩ = some (.int .u64 y) := (hc2 _ _ zz1).trans (by simp [go_sem, a1, hz1])
      clear hb hc2 hf2 a0 a1 a2 a3 hb1
      go_wp2_with fail
      with_reducible refine (unhide P' _).mono ?_
      rintro e w3 ⟨rfl, hb⟩
      have hs3 := hb.size
      have y1 : w.heap.size < w3.heap.size := by omega
      have y2 : w1.heap.size < w3.heap.size := by omega
      have j0 := (hb.cell (p := ⟨w1.heap.size, 0, none⟩) z2).trans k0
      have j1 := (hb.cell (p := ⟨w1.heap.size, 1, none⟩) z2).trans k1
      have j2 := (hb.frozen (p := ⟨w.heap.size, 0, none⟩) z1).trans k2
      have j3 := (hb.frozen (p := ⟨w.heap.size, 1, none⟩) z1).trans k3
      have j4 := (hb.cell (p := ⟨w.heap.size, 0, none⟩) z1).trans k4
      have j5 := (hb.cell (p := ⟨w.heap.size, 1, none⟩) z1).trans k5
      have hb3 := hb2.trans (hb.mono (by omega))
      clear hb k0 k1 k2 k3 k4 k5 hb2
      have hR : R.size ≤ 19 := by
        have e : R.data.toList.length = R.size := by simp
        rw [← e, unhide eR2, List.length_replicate]
        omega
      have hT : tb.size ≤ 38 := by
        have e : tb.data.toList.length = tb.size := by simp
        rw [← e]
        exact (unhide hso).2.2.1
      have hRS : R.size + S.size ≤ 38 := by omega
      have hRST : R.size + S.size + tb.size ≤ 76 := by omega
      go_wp2_with fail
      go_roundg (wN qh ql)
      case measure =>
        have := unhide EQ
        have := unhide hv19
        have := unhide hle
        omega
      case rel =>
        refine ⟨qh, ql, R ++ S ++ tb, rfl, q0, q1, q2, q3, ?_, ?_, ?_⟩
        · have hn := txtSo_round (unhide hso) (unhide hv19)
          rw [← unhide EQ, ← unhide eR2, ← unhide eS2] at hn
          refine hide ?_
          have e : (R ++ S ++ tb).data.toList = R.data.toList ++ S.data.toList ++ tb.data.toList := by simp
          rw [e]
          exact hn
        · exact hide (Nat.le_refl _)
        · (repeat' apply And.intro) <;> first | (simp (maxDischargeDepth := 6) [go_sem, j0, j1, j2, j3, j4, j5, y1, y2, z4]; done) | (simp; omega) | (repeat' (first | (with_reducible assumption) | (with_reducible exact Below.refl _ _) | (with_reducible refine below_drewN ?_ _) | (with_reducible refine Below.drew ?_) | (with_reducible refine Below.setCell ?_ ?_ _) | (with_reducible refine Below.alloc ?_ ?_ _) | omega | (simp; done) | (simp; omega)))
end Go.Proofs.YtiagngnpbpblaaaDoor
