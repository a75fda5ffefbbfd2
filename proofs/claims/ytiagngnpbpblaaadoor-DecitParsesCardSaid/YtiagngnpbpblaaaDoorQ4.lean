/- The contract of decit.number. Condition: a text of at most 400 bytes, for which (and whose rest behind its sign) strings.IndexAny answers as its contract says. -/
import Derived.Test.YtiagngnpbpblaaaDoorQ2
import Derived.Test.YtiagngnpbpblaaaDoorQp
import Derived.Test.YtiagngnpbpblaaaDoorLex2
import Derived.Shelf.Strings.SlTrimAscii
namespace Go.Proofs.YtiagngnpbpblaaaDoor
open Go.RowKit
set_option linter.unusedSimpArgs false
set_option linter.unusedVariables false

theorem isEmpty_size (s : ByteArray) : s.toList.isEmpty = decide (s.size = 0) := by
  rw [ByteArray.toList_eq]
  have e : s.data.toList.length = s.size := by simp
  rw [← e]
  cases s.data.toList <;> simp
theorem hd_at (s : ByteArray) (h : 0 < s.size) (c d : Int) : hdIs s.data.toList c d = (((s[0]'h).toNat : Int) == c || ((s[0]'h).toNat : Int) == d) := by
  have := hdIs_at (l := s.data.toList) (i := 0) (by simpa using h) c d
  rw [List.drop_zero] at this
  exact this
theorem two_ways (t : ByteArray) (c d : Int) : (t.size = 0 ∧ hdIs t.data.toList c d = false) ∨
    (∃ h : 0 < t.size, hdIs t.data.toList c d = false ∧ (((t[0]'h).toNat : Int) == c) = false ∧ (((t[0]'h).toNat : Int) == d) = false) ∨
    (∃ h : 0 < t.size, hdIs t.data.toList c d = true ∧ (((t[0]'h).toNat : Int) == c) = true) ∨
    (∃ h : 0 < t.size, hdIs t.data.toList c d = true ∧ (((t[0]'h).toNat : Int) == c) = false ∧ (((t[0]'h).toNat : Int) == d) = true) := by
  rcases Nat.eq_zero_or_pos t.size with h | h
  · refine Or.inl ⟨h, ?_⟩
    rw [List.eq_nil_of_length_eq_zero (show t.data.toList.length = 0 by rw [← h]; simp)]; rfl
  · have e := hd_at t h c d
    cases h1 : (((t[0]'h).toNat : Int) == c) <;> cases h2 : (((t[0]'h).toNat : Int) == d) <;> rw [h1, h2] at e
    · exact Or.inr (Or.inl ⟨h, e, h1, h2⟩)
    · exact Or.inr (Or.inr (Or.inr ⟨h, e, h1, h2⟩))
    · exact Or.inr (Or.inr (Or.inl ⟨h, e, h1⟩))
    · exact Or.inr (Or.inr (Or.inl ⟨h, e, h1⟩))
def IdxT (t : ByteArray) : Prop := ∀ w, Calls Tryd.prog 23 #[.string t, .string { data := #[101, 69] }] w fun e w' => e = .returned (.int .i64 (Lib.indexAny t.data.toList [101, 69])) ∧ Below w.heap.size w w'
theorem ascii_eE : ∀ (j : Nat) b, ({ data := #[101, 69] } : ByteArray).data.toList[j]? = some b → b.toNat < 128 := ascii_of_all (by decide)
theorem idx_ascii (t : ByteArray) (hs : t.size ≤ 100000) (ha : ∀ b ∈ t.data.toList, b.toNat < 128) : IdxT t := fun w =>
  Tryd.strings_IndexAny_laid t { data := #[101, 69] } w (by omega) (by decide) (fun j b h => ha b (List.mem_of_getElem? h)) ascii_eE
theorem trim_any (s : ByteArray) (hs : s.size ≤ 100000) (w : World) : Calls Tryd.prog 25 #[.string s, .string { data := #[48, 49, 50, 51, 52, 53, 54, 55, 56, 57] }] w fun e w' => e = .returned (.string ⟨(Lib.trimS s.data.toList digs).toArray⟩) ∧ Below w.heap.size w w' :=
  Any.strings_Trim_laid Tryd.lays160 (by kernel_rfl) s { data := #[48, 49, 50, 51, 52, 53, 54, 55, 56, 57] } w (by omega) (by decide) (ascii_of_all (by decide))
theorem trim_empty (l : List UInt8) : (⟨(Lib.trimS l digs).toArray⟩ : ByteArray).toList.isEmpty = l.all isD := by
  rw [ByteArray.toList_eq]
  show (Lib.trimS l digs).isEmpty = _
  cases h : l.all isD
  · have : Lib.trimS l digs ≠ [] := fun e => by rw [trim_digs, h] at e; cases e
    cases hq : Lib.trimS l digs with
    | nil => exact absurd hq this
    | cons => rfl
  · rw [(trim_digs l).2 h]; rfl
theorem pre_any (s : ByteArray) (c : UInt8) (w : World) : Calls Tryd.prog 24 #[.string s, .string ⟨#[c]⟩] w fun e w' => e = .returned (.bool (hdIs s.data.toList c.toNat c.toNat)) ∧ w = w' := by
  refine (Tryd.strings_HasPrefix s ⟨#[c]⟩ w).mono ?_
  rintro e w' ⟨rfl, rfl⟩
  refine ⟨?_, rfl⟩
  have : Lib.hasPrefix s.data.toList (⟨#[c]⟩ : ByteArray).data.toList = hdIs s.data.toList c.toNat c.toNat := by
    unfold Lib.hasPrefix
    show List.isPrefixOf [c] s.data.toList = _
    cases s.data.toList with
    | nil => rfl
    | cons x l =>
      show (c == x && List.isPrefixOf [] l) = ((x.toNat : Int) == c.toNat || (x.toNat : Int) == c.toNat)
      rw [Bool.or_self]
      have e : (c == x) = ((x.toNat : Int) == c.toNat) := by
        by_cases h : c = x
        · subst h; simp
        · rw [beq_eq_false_iff_ne.2 h]
          refine (beq_eq_false_iff_ne.2 (fun h2 => h ?_)).symm
          exact UInt8.toNat_inj.1 (by omega)
      rw [e]
      show (((x.toNat : Int) == c.toNat) && true) = _
      rw [Bool.and_true]
  rw [this]
theorem idx_lt (t : List UInt8) (cs : List UInt8) (h : 0 ≤ Lib.indexAny t cs) : Lib.indexAny t cs < t.length := by
  induction t with
  | nil => simp [Lib.indexAny] at h
  | cons b l ih =>
    rw [Lib.indexAny] at h ⊢
    split
    · first | (simp; done) | (simp; omega)
    · rename_i h1
      rw [if_neg h1] at h
      split
      · rename_i h2; rw [if_pos h2] at h; omega
      · rename_i h2
        rw [if_neg h2] at h
        have := Lib.indexAny_ge cs l
        have h3 : ¬ Lib.indexAny l cs = -1 := fun e => h2 (by rw [e]; rfl)
        have := ih (by omega)
        simp; omega
/-- Some integer stands at a library's variable. -/
def MaxAt (w : World) : Prop := ∃ m, w.cell? ⟨2, 0, none⟩ = some (.int .i64 m)
theorem cell_in {w : World} {a : Addr} {v : Value} (h : w.cell? a = some v) : a.block < w.heap.size := by
  rcases Nat.lt_or_ge a.block w.heap.size with h' | h'
  · exact h'
  · simp [World.cell?, Array.getElem?_eq_none h'] at h
theorem maxAt_below {w w' : World} (h : MaxAt w) (hb : Below w.heap.size w w') : MaxAt w' := by
  obtain ⟨m, hm⟩ := h
  exact ⟨m, (hb.cell (cell_in hm)).trans hm⟩
theorem cut46_any (s : ByteArray) (hs : s.size ≤ 100000) (w : World) (hM : MaxAt w) :
    Calls Tryd.prog 26 #[.string s, .string { data := #[46] }] w fun e w' => e = .returned (.tuple #[.string ⟨(Lib.cut s.data.toList [46]).1.toArray⟩, .string ⟨(Lib.cut s.data.toList [46]).2.1.toArray⟩, .bool (Lib.cut s.data.toList [46]).2.2]) ∧ Below w.heap.size w w' := by
  obtain ⟨m, hm⟩ := hM
  refine (Tryd.strings_Cut s { data := #[46] } m w (by omega) hm).mono ?_
  rintro e w' ⟨rfl, n, rfl⟩
  exact ⟨rfl, below_drewN (Below.refl _ _) n⟩
theorem cut_len (l : List UInt8) (c : UInt8) : (Lib.cut l [c]).1.length + (Lib.cut l [c]).2.1.length ≤ l.length := by
  unfold Lib.cut
  split
  · rename_i h
    have := Lib.index_room l [c] h
    simp only [List.length_take, List.length_drop, List.length_singleton] at *
    omega
  · simp
theorem expM_snoc (l : List UInt8) (c : UInt8) (h : isD c = true) : expM (l ++ [c]) = min (10 * expM l + ((c.toNat : Int) - 48)) 1000000 := by
  unfold expM
  rw [decVal_snoc]
  unfold isD at h
  rw [Bool.and_eq_true, decide_eq_true_eq] at h
  omega
theorem expM_bd (l : List UInt8) : 0 ≤ expM l ∧ expM l ≤ 1000000 := by unfold expM; omega
/-- What number tells. -/
def NumRet (l : List UInt8) (e : Ending) : Prop := (numOk l = true ∧ e = .returned (.tuple #[.bool (hdIs l 45 45), .string ⟨(digL (mantL (stripS l))).toArray⟩, .int .i64 (behL (mantL (stripS l))), .int .i64 (expV (stripS l)), .bool true])) ∨ (numOk l = false ∧ e = .returned (.tuple #[.bool false, .string { data := #[] }, .int .i64 0, .int .i64 0, .bool false]))
set_option maxHeartbeats 6400000 in
set_option maxRecDepth 100000 in
theorem number15_any (s : ByteArray) (hs : s.size ≤ 1000) (H1 : IdxT s) (H2 : 0 < s.size → IdxT (s.extract 1 s.size)) (w : World) (hMx : MaxAt w) :
    Calls Tryd.prog 9 #[.string s] w fun e w' => NumRet s.data.toList e ∧ Below w.heap.size w w' := by
  obtain ⟨L, hLe⟩ : ∃ L, s.data.toList = L := ⟨_, rfl⟩
  rw [hLe]
  obtain ⟨ng, hng⟩ : ∃ b, hdIs L 45 45 = b := ⟨_, rfl⟩
  obtain ⟨t, ht⟩ : ∃ t : ByteArray, t = if hdIs L 43 45 then s.extract 1 s.size else s := ⟨_, rfl⟩
  have htl : t.data.toList = stripS L := by
    unfold stripS
    rw [ht]
    split
    · rw [ext_rest, hLe, List.drop_one]
    · exact hLe
  have hts : t.size ≤ 1000 := by
    rw [ht]
    split
    · rw [ByteArray.size_extract]; omega
    · exact hs
  have HI : Hid (IdxT t) := Lib.hid (by
    rw [ht]
    split
    · rename_i h
      refine H2 ?_
      rcases Nat.eq_zero_or_pos s.size with h0 | h0
      · rw [← hLe, List.eq_nil_of_length_eq_zero (show s.data.toList.length = 0 by rw [← h0]; simp)] at h
        cases h
      · exact h0
    · exact H1)
  have HNG := Lib.hid hng
  have HMX := Lib.hid hMx
  clear hMx
  have HT := Lib.hid ht
  have HLE := Lib.hid hLe
  have HTL := Lib.hid htl
  clear hng ht hLe htl H1 H2
  have hE := isEmpty_size s
  go_enter Tryd.func9, Tryd.ntmps9
  obtain ⟨sb, hsb⟩ : ∃ b, hdIs L 43 45 = b := ⟨_, rfl⟩
  have HSB := Lib.hid hsb
  rw [← HLE.out] at hsb
  go_upto_region 2 with fail
  go_cut [27] (fun x W => x = .bool sb ∧ Below w.heap.size w W)
  case first =>
    rcases two_ways s 43 45 with ⟨q0, q1⟩ | ⟨q0, q1, q2, q3⟩ | ⟨q0, q1, q2⟩ | ⟨q0, q1, q2, q3⟩
    · rw [decide_eq_true q0] at hE
      rw [hsb] at q1
      subst q1
      clear hsb
      go_wp2_with fail
      go_meet
      exact ⟨rfl, by repeat' (first | (with_reducible assumption) | (with_reducible exact Below.refl _ _) | (with_reducible refine below_drewN ?_ _) | (with_reducible refine Below.drew ?_) | (with_reducible refine Below.setCell ?_ ?_ _) | (with_reducible refine Below.alloc ?_ ?_ _) | omega | (simp; done) | (simp; omega))⟩
    all_goals
      have hE2 : s.toList.isEmpty = false := by rw [hE]; exact decide_eq_false (by omega)
      rw [hsb] at q1
      subst q1
      clear hsb hE
      go_wp2_with fail
      go_meet
      exact ⟨by first | rfl | simp [*], by repeat' (first | (with_reducible assumption) | (with_reducible exact Below.refl _ _) | (with_reducible refine below_drewN ?_ _) | (with_reducible refine Below.drew ?_) | (with_reducible refine Below.setCell ?_ ?_ _) | (with_reducible refine Below.alloc ?_ ?_ _) | omega | (simp; done) | (simp; omega))⟩
  case rest =>
  obtain ⟨rfl, hbw0⟩ := hcut
  have hz0 := hbw0.size
  clear hE hsb
  go_upto_if 27 with fail
  go_cut [2, 7] (fun x y W => x = .bool ng ∧ y = .string t ∧ Below w.heap.size w W)
  case first =>
    have ht0 := HT.out
    have hn := HNG.out
    rw [HSB.out] at ht0
    cases sb
    · obtain rfl : t = s := ht0
      have h43 := HSB.out
      have h45 : ng = false := by
        rw [← hn, ← HLE.out]
        rw [← HLE.out] at h43
        rcases two_ways t 43 45 with ⟨q0, q1⟩ | ⟨q0, q1, q2, q3⟩ | ⟨q0, q1, q2⟩ | ⟨q0, q1, q2, q3⟩
        · rw [List.eq_nil_of_length_eq_zero (show t.data.toList.length = 0 by rw [← q0]; simp)]; rfl
        · rw [hd_at t q0 45 45, q3]; rfl
        · rw [h43] at q1; cases q1
        · rw [h43] at q1; cases q1
      subst h45
      clear hn h43
      go_wp2_with fail
      go_meet
      exact ⟨rfl, rfl, by repeat' (first | (with_reducible assumption) | (with_reducible exact Below.refl _ _) | (with_reducible refine below_drewN ?_ _) | (with_reducible refine Below.drew ?_) | (with_reducible refine Below.setCell ?_ ?_ _) | (with_reducible refine Below.alloc ?_ ?_ _) | omega | (simp; done) | (simp; omega))⟩
    · obtain rfl : t = s.extract 1 s.size := ht0
      have h43 := HSB.out
      obtain ⟨q0, h45⟩ : ∃ q0 : 0 < s.size, ng = (((s[0]'q0).toNat : Int) == 45) := by
        rw [← hn, ← HLE.out]
        rw [← HLE.out] at h43
        rcases Nat.eq_zero_or_pos s.size with h0 | h0
        · rw [List.eq_nil_of_length_eq_zero (show s.data.toList.length = 0 by rw [← h0]; simp)] at h43; cases h43
        · exact ⟨h0, by rw [hd_at s h0 45 45, Bool.or_self]⟩
      have q0i : (1 : Int) ≤ (s.size : Int) := by omega
      clear hn h43
      subst h45
      go_wp2_with fail
      go_quiet (fail)
      go_wp2_with fail
      go_meet
      exact ⟨rfl, rfl, by repeat' (first | (with_reducible assumption) | (with_reducible exact Below.refl _ _) | (with_reducible refine below_drewN ?_ _) | (with_reducible refine Below.drew ?_) | (with_reducible refine Below.setCell ?_ ?_ _) | (with_reducible refine Below.alloc ?_ ?_ _) | omega | (simp; done) | (simp; omega))⟩
  case rest =>
  obtain ⟨rfl, rfl, hbw⟩ := hcut
  have hz := hbw.size
  clear HT HSB hbw0 hz0
  have hI := HI.out
  clear HI
  obtain ⟨ix, hix⟩ : ∃ i, Lib.indexAny t.data.toList [101, 69] = i := ⟨_, rfl⟩
  have HIA := Lib.hid (show ∀ w, Calls Tryd.prog 23 #[.string t, .string { data := #[101, 69] }] w fun e w' => e = .returned (.int .i64 ix) ∧ Below w.heap.size w w' by rw [← hix]; exact hI)
  have hixl : ix < t.size ∧ -1 ≤ ix := by
    have e : t.data.toList.length = t.size := by simp
    have h1 := Lib.indexAny_ge [101, 69] t.data.toList
    have h2 := idx_lt t.data.toList [101, 69]
    rw [hix] at h1 h2
    refine ⟨?_, h1⟩
    by_cases h0 : 0 ≤ ix
    · have := h2 h0; omega
    · omega
  obtain ⟨hix1, hix0⟩ := hixl
  clear hI
  have HIX := Lib.hid hix
  obtain ⟨m, hm⟩ : ∃ m : ByteArray, m = if 0 ≤ ix then t.extract 0 ix.toNat else t := ⟨_, rfl⟩
  have HM : Hid (m.data.toList = mantL (stripS L)) := Lib.hid (by
    unfold mantL
    rw [← HTL.out, HIX.out, hm]
    split
    · rw [ext_head]
    · rfl)
  obtain ⟨ev, hev⟩ : ∃ v, expV (stripS L) = v := ⟨_, rfl⟩
  clear hix
  go_upto_if 36 with fail
  with_reducible refine (HIA.out _).mono ?_
  rintro e w2 ⟨rfl, hb2⟩
  have hw2 : Below w.heap.size w w2 := hbw.trans (hb2.mono hz)
  have hz2 := hw2.size
  clear hb2 HIA
  go_upto_if 36 with fail
  go_cut [2, 5, 7] (fun z x y W => z = .bool ng ∧ x = .int .i64 ev ∧ y = .string m ∧ Hid (expOk (stripS L) = true) ∧ Below w.heap.size w W)
  case first =>
    by_cases hi : 0 ≤ ix
    · obtain ⟨i, hii⟩ : ∃ i : Nat, ix = (i : Int) := ⟨ix.toNat, by omega⟩
      subst hii
      rw [if_pos hi, Int.toNat_natCast] at hm
      subst hm
      obtain ⟨p0, hp0⟩ : ∃ p0 : ByteArray, t.extract (i + 1) t.size = p0 := ⟨_, rfl⟩
      have HP0 : Hid (p0.data.toList = powL (stripS L)) := Lib.hid (by
        unfold powL
        rw [← HTL.out, HIX.out, Int.toNat_natCast, ← hp0, ext_rest])
      have hp0s : p0.size ≤ 1000 := by rw [← hp0, ByteArray.size_extract]; omega
      have PD := Lib.hid (fun w => pre_any p0 45 w)
      have PP := Lib.hid (fun w => pre_any p0 43 w)
      obtain ⟨dn, hdn⟩ : ∃ b, hdIs p0.data.toList 45 45 = b := ⟨_, rfl⟩
      obtain ⟨pl, hpl⟩ : ∃ b, hdIs p0.data.toList 43 43 = b := ⟨_, rfl⟩
      have e45 : ((45 : UInt8).toNat : Int) = 45 := rfl
      have e43 : ((43 : UInt8).toNat : Int) = 43 := rfl
      rw [e45, hdn] at PD
      rw [e43, hpl] at PP
      have hor : hdIs p0.data.toList 43 45 = (dn || pl) := by
        rw [← hdn, ← hpl]
        cases p0.data.toList with
        | nil => rfl
        | cons x l =>
          show ((x.toNat : Int) == 43 || (x.toNat : Int) == 45) = (((x.toNat : Int) == 45 || (x.toNat : Int) == 45) || ((x.toNat : Int) == 43 || (x.toNat : Int) == 43))
          rw [Bool.or_self, Bool.or_self, Bool.or_comm]
      obtain ⟨p, hp⟩ : ∃ p : ByteArray, p = if (dn || pl) = true then p0.extract 1 p0.size else p0 := ⟨_, rfl⟩
      have HPL : Hid (p.data.toList = stripS (powL (stripS L))) := Lib.hid (by
        rw [← HP0.out]
        unfold stripS
        rw [hor, hp]
        split
        · rw [ext_rest, List.drop_one]
        · rfl)
      have hps : p.size ≤ 1000 := by
        rw [hp]; split
        · rw [ByteArray.size_extract]; omega
        · exact hp0s
      have hpos : (dn || pl) = true → (1 : Int) ≤ (p0.size : Int) := fun h => by
        rw [← hor] at h
        rcases Nat.eq_zero_or_pos p0.size with h0 | h0
        · rw [List.eq_nil_of_length_eq_zero (show p0.data.toList.length = 0 by rw [← h0]; simp)] at h; cases h
        · omega
      have HDN : Hid (hdIs (powL (stripS L)) 45 45 = dn) := Lib.hid (by rw [← HP0.out]; exact hdn)
      have HPP := Lib.hid hp
      have HPO := Lib.hid hpos
      have hi1 : (i : Int) + 1 ≤ (t.size : Int) := by omega
      have hi2 : ((i : Int) + 1).toNat = i + 1 := by omega
      clear hdn hpl hor e45 e43 hp hpos
      go_upto_region 9 with fail
      try rw [hp0]
      with_reducible refine (PD.out _).mono ?_
      rintro e w' ⟨rfl, rfl⟩
      go_upto_region 9 with fail
      go_cut [50] (fun y W => y = .bool (dn || pl) ∧ Below w.heap.size w W)
      case first =>
        cases dn
        · go_wp2_with fail
          with_reducible refine (PP.out _).mono ?_
          rintro e w' ⟨rfl, rfl⟩
          go_wp2_with fail
          go_meet
          exact ⟨by first | rfl | simp, by repeat' (first | (with_reducible assumption) | (with_reducible exact Below.refl _ _) | (with_reducible refine below_drewN ?_ _) | (with_reducible refine Below.drew ?_) | (with_reducible refine Below.setCell ?_ ?_ _) | (with_reducible refine Below.alloc ?_ ?_ _) | omega | (simp; done) | (simp; omega))⟩
        · go_wp2_with fail
          go_meet
          exact ⟨by first | rfl | simp, by repeat' (first | (with_reducible assumption) | (with_reducible exact Below.refl _ _) | (with_reducible refine below_drewN ?_ _) | (with_reducible refine Below.drew ?_) | (with_reducible refine Below.setCell ?_ ?_ _) | (with_reducible refine Below.alloc ?_ ?_ _) | omega | (simp; done) | (simp; omega))⟩
      case rest =>
        obtain ⟨rfl, hbw3⟩ := hcut
        have hz3 := hbw3.size
        go_upto_if 50 with fail
        go_cut [9] (fun y W => y = .string p ∧ Below w.heap.size w W)
        case first =>
          have hp := HPP.out
          have hpos := HPO.out
          cases hdp : (dn || pl)
          · rw [hdp, if_neg (by decide)] at hp
            subst hp
            clear hpos
            go_wp2_with fail
            go_meet
            exact ⟨rfl, by repeat' (first | (with_reducible assumption) | (with_reducible exact Below.refl _ _) | (with_reducible refine below_drewN ?_ _) | (with_reducible refine Below.drew ?_) | (with_reducible refine Below.setCell ?_ ?_ _) | (with_reducible refine Below.alloc ?_ ?_ _) | omega | (simp; done) | (simp; omega))⟩
          · rw [hdp, if_pos rfl] at hp
            subst hp
            have hpo := hpos hdp
            clear hpos
            go_wp2_with fail
            go_meet
            exact ⟨rfl, by repeat' (first | (with_reducible assumption) | (with_reducible exact Below.refl _ _) | (with_reducible refine below_drewN ?_ _) | (with_reducible refine Below.drew ?_) | (with_reducible refine Below.setCell ?_ ?_ _) | (with_reducible refine Below.alloc ?_ ?_ _) | omega | (simp; done) | (simp; omega))⟩
        case rest =>
          obtain ⟨rfl, hbw4⟩ := hcut
          have hz4 := hbw4.size
          clear HPP HPO PD PP hbw3 hz3
          have TR := Lib.hid (fun w => trim_any p (by omega) w)
          obtain ⟨tp, htp⟩ : ∃ tp : ByteArray, (⟨(Lib.trimS p.data.toList digs).toArray⟩ : ByteArray) = tp := ⟨_, rfl⟩
          have htpe := trim_empty p.data.toList
          rw [htp] at TR htpe
          have hpe := isEmpty_size p
          have hpll : p.data.toList.length = p.size := by simp
          clear htp
          by_cases hp0 : p.size = 0
          · have HNO : Hid (numOk L = false) := Lib.hid (by
              have e1 : expOk (stripS L) = false := by
                unfold expOk
                rw [← HTL.out, HIX.out, if_pos hi, HTL.out, ← HPL.out, List.eq_nil_of_length_eq_zero (hpll.trans hp0)]; rfl
              unfold numOk; rw [e1]; rfl)
            rw [decide_eq_true hp0] at hpe
            clear hpll htpe
            go_wp2_with fail
            refine bodyPost_ret (v := .tuple #[.bool false, .string { data := #[] }, .int .i64 0, .int .i64 0, .bool false]) (by simp (maxDischargeDepth := 6) [results, Tryd.results9, go_sem]) rfl ?_
            exact ⟨Or.inr ⟨HNO.out, rfl⟩, by repeat' (first | (with_reducible assumption) | (with_reducible exact Below.refl _ _) | (with_reducible refine below_drewN ?_ _) | (with_reducible refine Below.drew ?_) | (with_reducible refine Below.setCell ?_ ?_ _) | (with_reducible refine Below.alloc ?_ ?_ _) | omega | (simp; done) | (simp; omega))⟩
          · rw [decide_eq_false hp0] at hpe
            cases had : p.data.toList.all isD
            · have HNO : Hid (numOk L = false) := Lib.hid (by
                have e1 : expOk (stripS L) = false := by
                  unfold expOk
                  rw [← HTL.out, HIX.out, if_pos hi, HTL.out, ← HPL.out, had, Bool.and_false]
                unfold numOk; rw [e1]; rfl)
              rw [had] at htpe
              clear hpll had
              go_wp2_with fail
              with_reducible refine (TR.out _).mono ?_
              rintro e w5 ⟨rfl, hb5⟩
              have hw5 : Below w.heap.size w w5 := hbw4.trans (hb5.mono hz4)
              have hz5 := hw5.size
              clear hb5
              go_wp2_with fail
              refine bodyPost_ret (v := .tuple #[.bool false, .string { data := #[] }, .int .i64 0, .int .i64 0, .bool false]) (by simp (maxDischargeDepth := 6) [results, Tryd.results9, go_sem]) rfl ?_
              exact ⟨Or.inr ⟨HNO.out, rfl⟩, by repeat' (first | (with_reducible assumption) | (with_reducible exact Below.refl _ _) | (with_reducible refine below_drewN ?_ _) | (with_reducible refine Below.drew ?_) | (with_reducible refine Below.setCell ?_ ?_ _) | (with_reducible refine Below.alloc ?_ ?_ _) | omega | (simp; done) | (simp; omega))⟩
            · rw [had] at htpe
              have HOK : Hid (expOk (stripS L) = true) := Lib.hid (by
                unfold expOk
                rw [← HTL.out, HIX.out, if_pos hi, HTL.out, ← HPL.out, had, Bool.and_true]
                cases hq : p.data.toList with
                | nil => rw [hq] at hpll; exact absurd hpll.symm hp0
                | cons => rfl)
              have HEV : Hid (ev = if dn = true then -expM p.data.toList else expM p.data.toList) := Lib.hid (by
                rw [← hev]
                unfold expV
                rw [← HTL.out, HIX.out, if_pos hi, HTL.out, HDN.out, ← HPL.out])
              have HAD := Lib.hid had
              have HPN := Lib.hid hpll
              clear hpll had hev
              go_wp2_with fail
              with_reducible refine (TR.out _).mono ?_
              rintro e w5 ⟨rfl, hb5⟩
              have hw5 : Below w.heap.size w w5 := hbw4.trans (hb5.mono hz4)
              have hz5 := hw5.size
              clear hb5 hbw4 hz4
              go_wp2_with fail
              go_loopw [5, 62] (fun x j W => ∃ (K : Nat) (v : Int), x = .int .i64 v ∧ j = .int .i64 K ∧ K ≤ p.size ∧ Hid (v = expM (p.data.toList.take K)) ∧ 0 ≤ v ∧ v ≤ 1000000 ∧ Below w.heap.size w W) (fun _ j _ => p.size - (intOf j).toNat)
              case atStart => exact ⟨0, 0, rfl, rfl, Nat.zero_le _, Lib.hid (by unfold expM; rfl), by decide, by decide, hw5⟩
              case round =>
                obtain ⟨K, v, rfl, rfl, hK, HV, v0, v1, hbw6⟩ := hrel
                have hz6 := hbw6.size
                clear hw5 hz5
                by_cases hlt : K < p.size
                · have hd : isD p[K] = true := List.all_eq_true.1 HAD.out _ (by
                    have h2 : K < p.data.toList.length := by rw [HPN.out]; exact hlt
                    exact List.getElem_mem h2)
                  have hd2 : 48 ≤ p[K].toNat ∧ p[K].toNat ≤ 57 := by
                    unfold isD at hd
                    rw [Bool.and_eq_true, decide_eq_true_eq, decide_eq_true_eq] at hd
                    exact hd
                  obtain ⟨d1, d2⟩ := hd2
                  have hsub : IntKind.u8.wrap ((p[K].toNat : Int) - 48) = (p[K].toNat : Int) - 48 := IntWalk.u8_in _ (by omega)
                  have HV2 : Hid (min (10 * v + ((p[K].toNat : Int) - 48)) 1000000 = expM (p.data.toList.take (K + 1))) := Lib.hid (by
                    have h2 : K < p.data.toList.length := by rw [HPN.out]; exact hlt
                    rw [List.take_succ_eq_append_getElem h2]
                    have h3 : p.data.toList[K] = p[K] := rfl
                    rw [h3, expM_snoc _ _ hd, ← HV.out])
                  clear hd
                  have hmm := expM_bd (p.data.toList.take (K + 1))
                  rw [← HV2.out] at hmm
                  go_wp2_with fail
                  go_roundw
                  case rel => exact ⟨K + 1, _, rfl, by go_num, by omega, HV2, hmm.1, hmm.2, hbw6⟩
                  case measure => first | (simp [intOf]; done) | (simp [intOf]; omega)
                · have hfull : p.data.toList.take K = p.data.toList := List.take_of_length_le (by rw [HPN.out]; omega)
                  have hv := HV.out
                  rw [hfull] at hv
                  have he := HEV.out
                  rw [← hv] at he
                  clear hfull hv
                  cases dn
                  · obtain rfl : ev = v := he
                    go_wp2_with fail
                    go_meet
                    exact ⟨rfl, rfl, rfl, HOK, by repeat' (first | (with_reducible assumption) | (with_reducible exact Below.refl _ _) | (with_reducible refine below_drewN ?_ _) | (with_reducible refine Below.drew ?_) | (with_reducible refine Below.setCell ?_ ?_ _) | (with_reducible refine Below.alloc ?_ ?_ _) | omega | (simp; done) | (simp; omega))⟩
                  · obtain rfl : ev = -v := he
                    go_wp2_with fail
                    go_meet
                    exact ⟨rfl, rfl, rfl, HOK, by repeat' (first | (with_reducible assumption) | (with_reducible exact Below.refl _ _) | (with_reducible refine below_drewN ?_ _) | (with_reducible refine Below.drew ?_) | (with_reducible refine Below.setCell ?_ ?_ _) | (with_reducible refine Below.alloc ?_ ?_ _) | omega | (simp; done) | (simp; omega))⟩
    · rw [if_neg hi] at hm
      subst hm
      have hev0 : ev = 0 := by
        rw [← hev]; unfold expV
        rw [← HTL.out, HIX.out, if_neg hi]
      subst hev0
      have HOK : Hid (expOk (stripS L) = true) := Lib.hid (by
        unfold expOk
        rw [← HTL.out, HIX.out, if_neg hi])
      clear hev
      go_wp2_with fail
      go_meet
      exact ⟨rfl, rfl, rfl, HOK, by repeat' (first | (with_reducible assumption) | (with_reducible exact Below.refl _ _) | (with_reducible refine below_drewN ?_ _) | (with_reducible refine Below.drew ?_) | (with_reducible refine Below.setCell ?_ ?_ _) | (with_reducible refine Below.alloc ?_ ?_ _) | omega | (simp; done) | (simp; omega))⟩
  case rest =>
  obtain ⟨rfl, rfl, rfl, HOK, hbw3⟩ := hcut
  have hz3 := hbw3.size
  have HEV := Lib.hid hev
  have hms : m.size ≤ 1000 := by
    rw [hm]; split
    · rw [ByteArray.size_extract]; omega
    · exact hts
  have CT := Lib.hid (fun (w : World) (h : MaxAt w) => cut46_any m (by omega) w h)
  have hcl := cut_len m.data.toList 46
  have hml : m.data.toList.length = m.size := by simp
  have HDL : Hid (digL (mantL (stripS L)) = (Lib.cut m.data.toList [46]).1 ++ (Lib.cut m.data.toList [46]).2.1) := Lib.hid (by rw [← HM.out]; rfl)
  have HBL : Hid (behL (mantL (stripS L)) = (Lib.cut m.data.toList [46]).2.1.length) := Lib.hid (by rw [← HM.out]; rfl)
  obtain ⟨a, ha⟩ : ∃ a : ByteArray, (⟨(Lib.cut m.data.toList [46]).1.toArray⟩ : ByteArray) = a := ⟨_, rfl⟩
  obtain ⟨b, hb⟩ : ∃ b : ByteArray, (⟨(Lib.cut m.data.toList [46]).2.1.toArray⟩ : ByteArray) = b := ⟨_, rfl⟩
  have hal : a.data.toList = (Lib.cut m.data.toList [46]).1 := by rw [← ha]
  have hbl : b.data.toList = (Lib.cut m.data.toList [46]).2.1 := by rw [← hb]
  simp only [ha, hb] at CT
  rw [← hal, ← hbl] at HDL hcl
  rw [← hbl] at HBL
  generalize (Lib.cut m.data.toList [46]).2.2 = fnd at *
  have has : a.data.toList.length = a.size := by simp
  have hbs : b.data.toList.length = b.size := by simp
  have hab : a.size + b.size ≤ 1000 := by omega
  have TR := Lib.hid (fun w => trim_any (a ++ b) (by rw [ByteArray.size_append]; omega) w)
  have habl : (a ++ b).data.toList = a.data.toList ++ b.data.toList := by simp
  obtain ⟨tp, htp⟩ : ∃ tp : ByteArray, (⟨(Lib.trimS (a ++ b).data.toList digs).toArray⟩ : ByteArray) = tp := ⟨_, rfl⟩
  have htpe := trim_empty (a ++ b).data.toList
  rw [htp] at TR htpe
  have hpe := isEmpty_size (a ++ b)
  have hpsz : (a ++ b).size = a.size + b.size := by simp
  have HAB : Hid ((⟨(digL (mantL (stripS L))).toArray⟩ : ByteArray) = a ++ b) := Lib.hid (str_ext (by rw [habl]; exact HDL.out))
  have HBS : Hid (((behL (mantL (stripS L)) : Nat) : Int) = (b.size : Int)) := Lib.hid (by rw [HBL.out, hbs])
  clear hev hm ha hb hal hbl htp has HM hcl hml hbs HBL
  by_cases h0 : a.size + b.size = 0
  · have HNO : Hid (numOk L = false) := Lib.hid (by
      have e1 : digOk (mantL (stripS L)) = false := by
        unfold digOk
        have : digL (mantL (stripS L)) = [] := List.eq_nil_of_length_eq_zero (by
          rw [HDL.out, List.length_append]
          have h1 : a.data.toList.length = a.size := by simp
          have h2 : b.data.toList.length = b.size := by simp
          omega)
        rw [this]; rfl
      unfold numOk; rw [e1, Bool.and_false])
    rw [hpsz, decide_eq_true h0] at hpe
    clear htpe
    go_wp2_with fail
    with_reducible refine (CT.out _ (maxAt_below HMX.out hbw3)).mono ?_
    rintro e w4 ⟨rfl, hb4⟩
    have hw4 : Below w.heap.size w w4 := hbw3.trans (hb4.mono hz3)
    have hz4 := hw4.size
    clear hb4
    go_wp2_with fail
    refine bodyPost_ret (v := .tuple #[.bool false, .string { data := #[] }, .int .i64 0, .int .i64 0, .bool false]) (by simp (maxDischargeDepth := 6) [results, Tryd.results9, go_sem]) rfl ?_
    exact ⟨Or.inr ⟨HNO.out, rfl⟩, by repeat' (first | (with_reducible assumption) | (with_reducible exact Below.refl _ _) | (with_reducible refine below_drewN ?_ _) | (with_reducible refine Below.drew ?_) | (with_reducible refine Below.setCell ?_ ?_ _) | (with_reducible refine Below.alloc ?_ ?_ _) | omega | (simp; done) | (simp; omega))⟩
  · rw [hpsz, decide_eq_false h0] at hpe
    cases had : (a ++ b).data.toList.all isD
    · have HNO : Hid (numOk L = false) := Lib.hid (by
        have e1 : digOk (mantL (stripS L)) = false := by
          unfold digOk
          rw [HDL.out, ← habl, had, Bool.and_false]
        unfold numOk; rw [e1, Bool.and_false])
      rw [had] at htpe
      clear had habl HDL
      go_wp2_with fail
      with_reducible refine (CT.out _ (maxAt_below HMX.out hbw3)).mono ?_
      rintro e w4 ⟨rfl, hb4⟩
      have hw4 : Below w.heap.size w w4 := hbw3.trans (hb4.mono hz3)
      have hz4 := hw4.size
      clear hb4
      go_wp2_with fail
      with_reducible refine (TR.out _).mono ?_
      rintro e w5 ⟨rfl, hb5⟩
      have hw5 : Below w.heap.size w w5 := hw4.trans (hb5.mono hz4)
      have hz5 := hw5.size
      clear hb5
      go_wp2_with fail
      refine bodyPost_ret (v := .tuple #[.bool false, .string { data := #[] }, .int .i64 0, .int .i64 0, .bool false]) (by simp (maxDischargeDepth := 6) [results, Tryd.results9, go_sem]) rfl ?_
      exact ⟨Or.inr ⟨HNO.out, rfl⟩, by repeat' (first | (with_reducible assumption) | (with_reducible exact Below.refl _ _) | (with_reducible refine below_drewN ?_ _) | (with_reducible refine Below.drew ?_) | (with_reducible refine Below.setCell ?_ ?_ _) | (with_reducible refine Below.alloc ?_ ?_ _) | omega | (simp; done) | (simp; omega))⟩
    · have HYES : Hid (numOk L = true) := Lib.hid (by
        have e1 : digOk (mantL (stripS L)) = true := by
          unfold digOk
          rw [HDL.out, ← habl, had, Bool.and_true]
          cases hq : (a ++ b).data.toList with
          | nil =>
            exfalso
            have h3 : (a ++ b).data.toList.length = (a ++ b).size := by simp
            rw [hq, hpsz] at h3
            exact h0 h3.symm
          | cons => rfl
        unfold numOk; rw [e1, HOK.out]; rfl)
      rw [had] at htpe
      clear had habl HDL
      go_wp2_with fail
      with_reducible refine (CT.out _ (maxAt_below HMX.out hbw3)).mono ?_
      rintro e w4 ⟨rfl, hb4⟩
      have hw4 : Below w.heap.size w w4 := hbw3.trans (hb4.mono hz3)
      have hz4 := hw4.size
      clear hb4
      go_wp2_with fail
      with_reducible refine (TR.out _).mono ?_
      rintro e w5 ⟨rfl, hb5⟩
      have hw5 : Below w.heap.size w w5 := hw4.trans (hb5.mono hz4)
      have hz5 := hw5.size
      clear hb5
      go_wp2_with fail
      refine bodyPost_ret (v := .tuple #[.bool ng, .string (a ++ b), .int .i64 b.size, .int .i64 ev, .bool true]) (by simp (maxDischargeDepth := 6) [results, Tryd.results9, go_sem]) rfl ?_
      refine ⟨Or.inl ⟨HYES.out, ?_⟩, by repeat' (first | (with_reducible assumption) | (with_reducible exact Below.refl _ _) | (with_reducible refine below_drewN ?_ _) | (with_reducible refine Below.drew ?_) | (with_reducible refine Below.setCell ?_ ?_ _) | (with_reducible refine Below.alloc ?_ ?_ _) | omega | (simp; done) | (simp; omega))⟩
      rw [HAB.out, HBS.out, HNG.out, HEV.out]
end Go.Proofs.YtiagngnpbpblaaaDoor
