/- WholeGoes: the walk. Condition: the table of powers of 10 and the two errors of strconv are laid. -/
import Derived.Test.YtdfpknomhambcaaDoorW9
import Derived.Laws.BitsLemmas
import Derived.Outline
namespace Go.Proofs.YtdfpknomhambcaaDoor
open Go.RowKit
set_option linter.unusedSimpArgs false
set_option linter.unusedVariables false

theorem i64_and1 (n : Int) : bits .and .i64 n 1 = n % 2 := by
  have h1 : (BitVec.ofInt 64 1).toNat = 2 ^ 1 - 1 := by decide
  have key : (BitVec.ofInt 64 n &&& BitVec.ofInt 64 1).toNat = (n % ((2 ^ 64 : Nat) : Int)).toNat % 2 ^ 1 := by
    rw [BitVec.toNat_and, BitVec.toNat_ofInt, h1, Nat.and_two_pow_sub_one_eq_mod]
  show IntKind.i64.wrap ((BitVec.ofInt 64 n &&& BitVec.ofInt 64 1).toNat : Nat) = n % 2
  rw [key, IntKind.wrap_i64]
  omega

set_option maxHeartbeats 3200000 in
set_option maxRecDepth 100000 in
theorem wholeGoes_long (s : ByteArray) (n sign : Int) (hs : 200 < s.size) (w : World) (hL : Laid10 w) :
    Calls Tryd.prog 10 #[.string s, .int .u64 n, .int .i64 sign] w fun e w' => e = .returned (.bool true) ∧ Below w.heap.size w w' := by
  have HL := Lib.hid hL
  clear hL
  have AW := Lib.hid awake10

  go_enter Tryd.func10, Tryd.ntmps10
  go_wp2_with fail
  with_reducible refine (AW.out _ HL.out).mono ?_
  rintro e w1 ⟨rfl, hb1⟩
  have hw1 : Below w.heap.size w w1 := Below.trans (by repeat' (first | (with_reducible assumption) | (with_reducible exact Below.refl _ _) | (with_reducible refine below_drewN ?_ _) | (with_reducible refine Below.drew ?_) | (with_reducible refine Below.setCell ?_ ?_ _) | (with_reducible refine Below.alloc ?_ ?_ _) | omega | (simp; done) | (simp; omega))) (hb1.mono (by first | assumption | (simp; done) | (simp; omega)))
  have hz1 := hw1.size
  clear hb1
  go_wp2_with fail
  go_ret
  exact ⟨rfl, by repeat' (first | (with_reducible assumption) | (with_reducible exact Below.refl _ _) | (with_reducible refine below_drewN ?_ _) | (with_reducible refine Below.drew ?_) | (with_reducible refine Below.setCell ?_ ?_ _) | (with_reducible refine Below.alloc ?_ ?_ _) | omega | (simp; done) | (simp; omega))⟩

set_option maxHeartbeats 3200000 in
set_option maxRecDepth 100000 in
theorem wholeGoes_nil (s : ByteArray) (n sign : Int) (hs : s.size ≤ 200) (hE : s.toList.isEmpty = true) (w : World) (hL : Laid10 w) :
    Calls Tryd.prog 10 #[.string s, .int .u64 n, .int .i64 sign] w fun e w' => e = .returned (.bool true) ∧ Below w.heap.size w w' := by
  have HL := Lib.hid hL
  clear hL
  have AW := Lib.hid awake10

  go_enter Tryd.func10, Tryd.ntmps10
  go_wp2_with fail
  with_reducible refine (AW.out _ HL.out).mono ?_
  rintro e w1 ⟨rfl, hb1⟩
  have hw1 : Below w.heap.size w w1 := Below.trans (by repeat' (first | (with_reducible assumption) | (with_reducible exact Below.refl _ _) | (with_reducible refine below_drewN ?_ _) | (with_reducible refine Below.drew ?_) | (with_reducible refine Below.setCell ?_ ?_ _) | (with_reducible refine Below.alloc ?_ ?_ _) | omega | (simp; done) | (simp; omega))) (hb1.mono (by first | assumption | (simp; done) | (simp; omega)))
  have hz1 := hw1.size
  clear hb1
  go_wp2_with fail
  go_ret
  exact ⟨rfl, by repeat' (first | (with_reducible assumption) | (with_reducible exact Below.refl _ _) | (with_reducible refine below_drewN ?_ _) | (with_reducible refine Below.drew ?_) | (with_reducible refine Below.setCell ?_ ?_ _) | (with_reducible refine Below.alloc ?_ ?_ _) | omega | (simp; done) | (simp; omega))⟩

set_option maxHeartbeats 6400000 in
set_option maxRecDepth 100000 in
theorem wholeGoes_0 (s d pl : ByteArray) (n sign p q : Int) (hs : s.size ≤ 200) (hd : d.size ≤ 20) (hpl : pl.size ≤ 1) (hE : s.toList.isEmpty = false) (h0 : 0 < s.size)
    (ep : bits .and .i64 sign 1 = p) (eq : bits .and .i64 (sign / 2) 1 = q) (hp : (p = 0 ∨ p = 1) ∧ (q = 0 ∨ q = 1)) (hpq : (p + q = 0 ∧ pl = { data := #[] }) ∨ (p + q = 1 ∧ pl = { data := #[43] }) ∨ (p + q = 2 ∧ pl = { data := #[45] }))
    (L0 : ∀ w, Calls Tryd.prog 21 #[.string (s)] w fun e w' => e = .returned (.int .i64 0) ∧ w = w')
    (DG : ∀ w, Calls Tryd.prog 23 #[.int .u64 n] w fun e w' => e = .returned (.string d) ∧ Below w.heap.size w w')
    (LM : (((s[0]'h0).toNat : Int) != 45) = true → ∀ w, Calls Tryd.prog 21 #[.string (({ data := #[45] } : ByteArray) ++ s)] w fun e w' => e = .returned (.int .i64 0) ∧ w = w')
    
    (w : World) (hL : Laid10 w) :
    Calls Tryd.prog 10 #[.string s, .int .u64 n, .int .i64 sign] w fun e w' => e = .returned (.bool true) ∧ Below w.heap.size w w' := by
  have HL := Lib.hid hL
  clear hL
  have AW := Lib.hid awake10
  replace L0 := Lib.hid L0
  replace DG := Lib.hid DG
  replace LM := Lib.hid LM
  replace hpq := Lib.hid hpq
  replace ep := Lib.hid ep
  replace eq := Lib.hid eq
  have k45 : ({ data := #[45] } : ByteArray).size = 1 := rfl
  have k46 : ({ data := #[46] } : ByteArray).size = 1 := rfl
  have k101 : ({ data := #[101] } : ByteArray).size = 1 := rfl
  have k69 : ({ data := #[69] } : ByteArray).size = 1 := rfl
  have k48 : ({ data := #[48] } : ByteArray).size = 1 := rfl
  have k32 : ({ data := #[32] } : ByteArray).size = 1 := rfl
  have z1 : 1 + s.size ≤ 300 := by omega
  have z2 : s.size + 1 ≤ 300 := by omega
  have z3 : s.size + d.size ≤ 300 := by omega
  have z4 : s.size + 1 + d.size ≤ 300 := by omega
  have z5 : s.size + 1 + pl.size ≤ 300 := by omega
  have z6 : s.size + 1 + pl.size + d.size ≤ 300 := by omega
  have z7 : s.size + 1 + d.size + 1 ≤ 300 := by omega
  have z8 : s.size + 1 + d.size + 1 + pl.size ≤ 300 := by omega
  have z9 : s.size + 1 + d.size + 1 + pl.size + d.size ≤ 300 := by omega
  go_enter Tryd.func10, Tryd.ntmps10
  go_wp2_with fail
  with_reducible refine (AW.out _ HL.out).mono ?_
  rintro e w1 ⟨rfl, hb1⟩
  have hw1 : Below w.heap.size w w1 := Below.trans (by repeat' (first | (with_reducible assumption) | (with_reducible exact Below.refl _ _) | (with_reducible refine below_drewN ?_ _) | (with_reducible refine Below.drew ?_) | (with_reducible refine Below.setCell ?_ ?_ _) | (with_reducible refine Below.alloc ?_ ?_ _) | omega | (simp; done) | (simp; omega))) (hb1.mono (by first | assumption | (simp; done) | (simp; omega)))
  have hz1 := hw1.size
  clear hb1
  go_wp2_with fail
  with_reducible refine (L0.out _).mono ?_
  rintro e w' ⟨rfl, rfl⟩
  go_wp2_with fail
  with_reducible refine (DG.out _).mono ?_
  rintro e w2 ⟨rfl, hb2⟩
  have hw2 : Below w.heap.size w w2 := Below.trans (by repeat' (first | (with_reducible assumption) | (with_reducible exact Below.refl _ _) | (with_reducible refine below_drewN ?_ _) | (with_reducible refine Below.drew ?_) | (with_reducible refine Below.setCell ?_ ?_ _) | (with_reducible refine Below.alloc ?_ ?_ _) | omega | (simp; done) | (simp; omega))) (hb2.mono (by first | assumption | (simp; done) | (simp; omega)))
  have hz2 := hw2.size
  clear hb2
  go_upto_region 6 with fail
  go_cut [9] (fun x W => x = .string pl ∧ Below w.heap.size w W)
  case first =>
    have ep := ep.out
    have eq := eq.out
    have hsz2 := hw2.size
    obtain ⟨hp1 | hp1, hq1 | hq1⟩ := hp
    all_goals
      subst hp1 hq1
      rcases hpq.out with ⟨c1, c2⟩ | ⟨c1, c2⟩ | ⟨c1, c2⟩
      all_goals first
        | exact absurd c1 (by decide)
        | (subst c2; clear c1; go_wp2_with fail; go_meet; exact ⟨rfl, by repeat' (first | (with_reducible assumption) | (with_reducible exact Below.refl _ _) | (with_reducible refine below_drewN ?_ _) | (with_reducible refine Below.drew ?_) | (with_reducible refine Below.setCell ?_ ?_ _) | (with_reducible refine Below.alloc ?_ ?_ _) | omega | (simp; done) | (simp; omega))⟩)
  case rest =>
    obtain ⟨rfl, hbw⟩ := hcut
    clear hpq ep eq hp
    cases hm : (((s[0]'h0).toNat : Int) != 45)
    · go_wp2_with fail
      go_ret
      exact ⟨rfl, by repeat' (first | (with_reducible assumption) | (with_reducible exact Below.refl _ _) | (with_reducible refine below_drewN ?_ _) | (with_reducible refine Below.drew ?_) | (with_reducible refine Below.setCell ?_ ?_ _) | (with_reducible refine Below.alloc ?_ ?_ _) | omega | (simp; done) | (simp; omega))⟩
    · have LM := Lib.hid (LM.out hm)
      go_wp2_with fail
      with_reducible refine (LM.out _).mono ?_
      rintro e w' ⟨rfl, rfl⟩
      go_wp2_with fail
      go_ret
      exact ⟨rfl, by repeat' (first | (with_reducible assumption) | (with_reducible exact Below.refl _ _) | (with_reducible refine below_drewN ?_ _) | (with_reducible refine Below.drew ?_) | (with_reducible refine Below.setCell ?_ ?_ _) | (with_reducible refine Below.alloc ?_ ?_ _) | omega | (simp; done) | (simp; omega))⟩

set_option maxHeartbeats 6400000 in
set_option maxRecDepth 100000 in
theorem wholeGoes_1 (s d pl : ByteArray) (n sign p q : Int) (hs : s.size ≤ 200) (hd : d.size ≤ 20) (hpl : pl.size ≤ 1) (hE : s.toList.isEmpty = false) (h0 : 0 < s.size)
    (ep : bits .and .i64 sign 1 = p) (eq : bits .and .i64 (sign / 2) 1 = q) (hp : (p = 0 ∨ p = 1) ∧ (q = 0 ∨ q = 1)) (hpq : (p + q = 0 ∧ pl = { data := #[] }) ∨ (p + q = 1 ∧ pl = { data := #[43] }) ∨ (p + q = 2 ∧ pl = { data := #[45] }))
    (L0 : ∀ w, Calls Tryd.prog 21 #[.string (s)] w fun e w' => e = .returned (.int .i64 1) ∧ w = w')
    (DG : ∀ w, Calls Tryd.prog 23 #[.int .u64 n] w fun e w' => e = .returned (.string d) ∧ Below w.heap.size w w')
    (LM : (((s[0]'h0).toNat : Int) != 45) = true → ∀ w, Calls Tryd.prog 21 #[.string (({ data := #[45] } : ByteArray) ++ s)] w fun e w' => e = .returned (.int .i64 1) ∧ w = w')
    (LA : ∀ w, Calls Tryd.prog 21 #[.string (s ++ ({ data := #[46] } : ByteArray) ++ d)] w fun e w' => e = .returned (.int .i64 2) ∧ w = w')
    (LB : ∀ w, Calls Tryd.prog 21 #[.string (s ++ ({ data := #[101] } : ByteArray) ++ pl ++ d)] w fun e w' => e = .returned (.int .i64 2) ∧ w = w')
    (LC : ∀ w, Calls Tryd.prog 21 #[.string (s ++ ({ data := #[46] } : ByteArray) ++ d ++ ({ data := #[69] } : ByteArray) ++ pl ++ d)] w fun e w' => e = .returned (.int .i64 2) ∧ w = w')
    (LE : ∀ w, Calls Tryd.prog 21 #[.string (s ++ ({ data := #[46] } : ByteArray))] w fun e w' => e = .returned (.int .i64 0) ∧ w = w')
    (w : World) (hL : Laid10 w) :
    Calls Tryd.prog 10 #[.string s, .int .u64 n, .int .i64 sign] w fun e w' => e = .returned (.bool true) ∧ Below w.heap.size w w' := by
  have HL := Lib.hid hL
  clear hL
  have AW := Lib.hid awake10
  replace L0 := Lib.hid L0
  replace DG := Lib.hid DG
  replace LA := Lib.hid LA
  replace LB := Lib.hid LB
  replace LC := Lib.hid LC
  replace LE := Lib.hid LE
  replace LM := Lib.hid LM
  replace hpq := Lib.hid hpq
  replace ep := Lib.hid ep
  replace eq := Lib.hid eq
  have k45 : ({ data := #[45] } : ByteArray).size = 1 := rfl
  have k46 : ({ data := #[46] } : ByteArray).size = 1 := rfl
  have k101 : ({ data := #[101] } : ByteArray).size = 1 := rfl
  have k69 : ({ data := #[69] } : ByteArray).size = 1 := rfl
  have k48 : ({ data := #[48] } : ByteArray).size = 1 := rfl
  have k32 : ({ data := #[32] } : ByteArray).size = 1 := rfl
  have z1 : 1 + s.size ≤ 300 := by omega
  have z2 : s.size + 1 ≤ 300 := by omega
  have z3 : s.size + d.size ≤ 300 := by omega
  have z4 : s.size + 1 + d.size ≤ 300 := by omega
  have z5 : s.size + 1 + pl.size ≤ 300 := by omega
  have z6 : s.size + 1 + pl.size + d.size ≤ 300 := by omega
  have z7 : s.size + 1 + d.size + 1 ≤ 300 := by omega
  have z8 : s.size + 1 + d.size + 1 + pl.size ≤ 300 := by omega
  have z9 : s.size + 1 + d.size + 1 + pl.size + d.size ≤ 300 := by omega
  go_enter Tryd.func10, Tryd.ntmps10
  go_wp2_with fail
  with_reducible refine (AW.out _ HL.out).mono ?_
  rintro e w1 ⟨rfl, hb1⟩
  have hw1 : Below w.heap.size w w1 := Below.trans (by repeat' (first | (with_reducible assumption) | (with_reducible exact Below.refl _ _) | (with_reducible refine below_drewN ?_ _) | (with_reducible refine Below.drew ?_) | (with_reducible refine Below.setCell ?_ ?_ _) | (with_reducible refine Below.alloc ?_ ?_ _) | omega | (simp; done) | (simp; omega))) (hb1.mono (by first | assumption | (simp; done) | (simp; omega)))
  have hz1 := hw1.size
  clear hb1
  go_wp2_with fail
  with_reducible refine (L0.out _).mono ?_
  rintro e w' ⟨rfl, rfl⟩
  go_wp2_with fail
  with_reducible refine (DG.out _).mono ?_
  rintro e w2 ⟨rfl, hb2⟩
  have hw2 : Below w.heap.size w w2 := Below.trans (by repeat' (first | (with_reducible assumption) | (with_reducible exact Below.refl _ _) | (with_reducible refine below_drewN ?_ _) | (with_reducible refine Below.drew ?_) | (with_reducible refine Below.setCell ?_ ?_ _) | (with_reducible refine Below.alloc ?_ ?_ _) | omega | (simp; done) | (simp; omega))) (hb2.mono (by first | assumption | (simp; done) | (simp; omega)))
  have hz2 := hw2.size
  clear hb2
  go_upto_region 6 with fail
  go_cut [9] (fun x W => x = .string pl ∧ Below w.heap.size w W)
  case first =>
    have ep := ep.out
    have eq := eq.out
    have hsz2 := hw2.size
    obtain ⟨hp1 | hp1, hq1 | hq1⟩ := hp
    all_goals
      subst hp1 hq1
      rcases hpq.out with ⟨c1, c2⟩ | ⟨c1, c2⟩ | ⟨c1, c2⟩
      all_goals first
        | exact absurd c1 (by decide)
        | (subst c2; clear c1; go_wp2_with fail; go_meet; exact ⟨rfl, by repeat' (first | (with_reducible assumption) | (with_reducible exact Below.refl _ _) | (with_reducible refine below_drewN ?_ _) | (with_reducible refine Below.drew ?_) | (with_reducible refine Below.setCell ?_ ?_ _) | (with_reducible refine Below.alloc ?_ ?_ _) | omega | (simp; done) | (simp; omega))⟩)
  case rest =>
    obtain ⟨rfl, hbw⟩ := hcut
    clear hpq ep eq hp
    cases hm : (((s[0]'h0).toNat : Int) != 45)
    · go_wp2_with fail
      with_reducible refine (LA.out _).mono ?_
      rintro e w' ⟨rfl, rfl⟩
      go_wp2_with fail
      with_reducible refine (LB.out _).mono ?_
      rintro e w' ⟨rfl, rfl⟩
      go_wp2_with fail
      with_reducible refine (LC.out _).mono ?_
      rintro e w' ⟨rfl, rfl⟩
      go_wp2_with fail
      with_reducible refine (LE.out _).mono ?_
      rintro e w' ⟨rfl, rfl⟩
      go_wp2_with fail
      go_ret
      exact ⟨rfl, by repeat' (first | (with_reducible assumption) | (with_reducible exact Below.refl _ _) | (with_reducible refine below_drewN ?_ _) | (with_reducible refine Below.drew ?_) | (with_reducible refine Below.setCell ?_ ?_ _) | (with_reducible refine Below.alloc ?_ ?_ _) | omega | (simp; done) | (simp; omega))⟩
    · have LM := Lib.hid (LM.out hm)
      go_wp2_with fail
      with_reducible refine (LM.out _).mono ?_
      rintro e w' ⟨rfl, rfl⟩
      go_wp2_with fail
      with_reducible refine (LA.out _).mono ?_
      rintro e w' ⟨rfl, rfl⟩
      go_wp2_with fail
      with_reducible refine (LB.out _).mono ?_
      rintro e w' ⟨rfl, rfl⟩
      go_wp2_with fail
      with_reducible refine (LC.out _).mono ?_
      rintro e w' ⟨rfl, rfl⟩
      go_wp2_with fail
      with_reducible refine (LE.out _).mono ?_
      rintro e w' ⟨rfl, rfl⟩
      go_wp2_with fail
      go_ret
      exact ⟨rfl, by repeat' (first | (with_reducible assumption) | (with_reducible exact Below.refl _ _) | (with_reducible refine below_drewN ?_ _) | (with_reducible refine Below.drew ?_) | (with_reducible refine Below.setCell ?_ ?_ _) | (with_reducible refine Below.alloc ?_ ?_ _) | omega | (simp; done) | (simp; omega))⟩

set_option maxHeartbeats 6400000 in
set_option maxRecDepth 100000 in
theorem wholeGoes_2 (s d pl : ByteArray) (n sign p q : Int) (hs : s.size ≤ 200) (hd : d.size ≤ 20) (hpl : pl.size ≤ 1) (hE : s.toList.isEmpty = false) (h0 : 0 < s.size)
    (ep : bits .and .i64 sign 1 = p) (eq : bits .and .i64 (sign / 2) 1 = q) (hp : (p = 0 ∨ p = 1) ∧ (q = 0 ∨ q = 1)) (hpq : (p + q = 0 ∧ pl = { data := #[] }) ∨ (p + q = 1 ∧ pl = { data := #[43] }) ∨ (p + q = 2 ∧ pl = { data := #[45] }))
    (L0 : ∀ w, Calls Tryd.prog 21 #[.string (s)] w fun e w' => e = .returned (.int .i64 2) ∧ w = w')
    (DG : ∀ w, Calls Tryd.prog 23 #[.int .u64 n] w fun e w' => e = .returned (.string d) ∧ Below w.heap.size w w')
    (LM : (((s[0]'h0).toNat : Int) != 45) = true → ∀ w, Calls Tryd.prog 21 #[.string (({ data := #[45] } : ByteArray) ++ s)] w fun e w' => e = .returned (.int .i64 2) ∧ w = w')
    (LA : ∀ w, Calls Tryd.prog 21 #[.string (s ++ d)] w fun e w' => e = .returned (.int .i64 2) ∧ w = w')
    (LB : ∀ w, Calls Tryd.prog 21 #[.string (({ data := #[48] } : ByteArray) ++ s)] w fun e w' => e = .returned (.int .i64 0) ∧ w = w')
    (LC : ∀ w, Calls Tryd.prog 21 #[.string (s ++ ({ data := #[32] } : ByteArray))] w fun e w' => e = .returned (.int .i64 0) ∧ w = w')
    (w : World) (hL : Laid10 w) :
    Calls Tryd.prog 10 #[.string s, .int .u64 n, .int .i64 sign] w fun e w' => e = .returned (.bool true) ∧ Below w.heap.size w w' := by
  have HL := Lib.hid hL
  clear hL
  have AW := Lib.hid awake10
  replace L0 := Lib.hid L0
  replace DG := Lib.hid DG
  replace LA := Lib.hid LA
  replace LB := Lib.hid LB
  replace LC := Lib.hid LC
  replace LM := Lib.hid LM
  replace hpq := Lib.hid hpq
  replace ep := Lib.hid ep
  replace eq := Lib.hid eq
  have k45 : ({ data := #[45] } : ByteArray).size = 1 := rfl
  have k46 : ({ data := #[46] } : ByteArray).size = 1 := rfl
  have k101 : ({ data := #[101] } : ByteArray).size = 1 := rfl
  have k69 : ({ data := #[69] } : ByteArray).size = 1 := rfl
  have k48 : ({ data := #[48] } : ByteArray).size = 1 := rfl
  have k32 : ({ data := #[32] } : ByteArray).size = 1 := rfl
  have z1 : 1 + s.size ≤ 300 := by omega
  have z2 : s.size + 1 ≤ 300 := by omega
  have z3 : s.size + d.size ≤ 300 := by omega
  have z4 : s.size + 1 + d.size ≤ 300 := by omega
  have z5 : s.size + 1 + pl.size ≤ 300 := by omega
  have z6 : s.size + 1 + pl.size + d.size ≤ 300 := by omega
  have z7 : s.size + 1 + d.size + 1 ≤ 300 := by omega
  have z8 : s.size + 1 + d.size + 1 + pl.size ≤ 300 := by omega
  have z9 : s.size + 1 + d.size + 1 + pl.size + d.size ≤ 300 := by omega
  go_enter Tryd.func10, Tryd.ntmps10
  go_wp2_with fail
  with_reducible refine (AW.out _ HL.out).mono ?_
  rintro e w1 ⟨rfl, hb1⟩
  have hw1 : Below w.heap.size w w1 := Below.trans (by repeat' (first | (with_reducible assumption) | (with_reducible exact Below.refl _ _) | (with_reducible refine below_drewN ?_ _) | (with_reducible refine Below.drew ?_) | (with_reducible refine Below.setCell ?_ ?_ _) | (with_reducible refine Below.alloc ?_ ?_ _) | omega | (simp; done) | (simp; omega))) (hb1.mono (by first | assumption | (simp; done) | (simp; omega)))
  have hz1 := hw1.size
  clear hb1
  go_wp2_with fail
  with_reducible refine (L0.out _).mono ?_
  rintro e w' ⟨rfl, rfl⟩
  go_wp2_with fail
  with_reducible refine (DG.out _).mono ?_
  rintro e w2 ⟨rfl, hb2⟩
  have hw2 : Below w.heap.size w w2 := Below.trans (by repeat' (first | (with_reducible assumption) | (with_reducible exact Below.refl _ _) | (with_reducible refine below_drewN ?_ _) | (with_reducible refine Below.drew ?_) | (with_reducible refine Below.setCell ?_ ?_ _) | (with_reducible refine Below.alloc ?_ ?_ _) | omega | (simp; done) | (simp; omega))) (hb2.mono (by first | assumption | (simp; done) | (simp; omega)))
  have hz2 := hw2.size
  clear hb2
  go_upto_region 6 with fail
  go_cut [9] (fun x W => x = .string pl ∧ Below w.heap.size w W)
  case first =>
    have ep := ep.out
    have eq := eq.out
    have hsz2 := hw2.size
    obtain ⟨hp1 | hp1, hq1 | hq1⟩ := hp
    all_goals
      subst hp1 hq1
      rcases hpq.out with ⟨c1, c2⟩ | ⟨c1, c2⟩ | ⟨c1, c2⟩
      all_goals first
        | exact absurd c1 (by decide)
        | (subst c2; clear c1; go_wp2_with fail; go_meet; exact ⟨rfl, by repeat' (first | (with_reducible assumption) | (with_reducible exact Below.refl _ _) | (with_reducible refine below_drewN ?_ _) | (with_reducible refine Below.drew ?_) | (with_reducible refine Below.setCell ?_ ?_ _) | (with_reducible refine Below.alloc ?_ ?_ _) | omega | (simp; done) | (simp; omega))⟩)
  case rest =>
    obtain ⟨rfl, hbw⟩ := hcut
    clear hpq ep eq hp
    cases hm : (((s[0]'h0).toNat : Int) != 45)
    · go_wp2_with fail
      with_reducible refine (LA.out _).mono ?_
      rintro e w' ⟨rfl, rfl⟩
      go_wp2_with fail
      with_reducible refine (LB.out _).mono ?_
      rintro e w' ⟨rfl, rfl⟩
      go_wp2_with fail
      with_reducible refine (LC.out _).mono ?_
      rintro e w' ⟨rfl, rfl⟩
      go_wp2_with fail
      go_ret
      exact ⟨rfl, by repeat' (first | (with_reducible assumption) | (with_reducible exact Below.refl _ _) | (with_reducible refine below_drewN ?_ _) | (with_reducible refine Below.drew ?_) | (with_reducible refine Below.setCell ?_ ?_ _) | (with_reducible refine Below.alloc ?_ ?_ _) | omega | (simp; done) | (simp; omega))⟩
    · have LM := Lib.hid (LM.out hm)
      go_wp2_with fail
      with_reducible refine (LM.out _).mono ?_
      rintro e w' ⟨rfl, rfl⟩
      go_wp2_with fail
      with_reducible refine (LA.out _).mono ?_
      rintro e w' ⟨rfl, rfl⟩
      go_wp2_with fail
      with_reducible refine (LB.out _).mono ?_
      rintro e w' ⟨rfl, rfl⟩
      go_wp2_with fail
      with_reducible refine (LC.out _).mono ?_
      rintro e w' ⟨rfl, rfl⟩
      go_wp2_with fail
      go_ret
      exact ⟨rfl, by repeat' (first | (with_reducible assumption) | (with_reducible exact Below.refl _ _) | (with_reducible refine below_drewN ?_ _) | (with_reducible refine Below.drew ?_) | (with_reducible refine Below.setCell ?_ ?_ _) | (with_reducible refine Below.alloc ?_ ?_ _) | omega | (simp; done) | (simp; omega))⟩

theorem lexEnd_k (k : Int) (l : List UInt8) : lexEnd k l = 0 ∨ lexEnd k l = k := by unfold lexEnd; split <;> simp
theorem lexExp_k (k : Int) (l : List UInt8) : lexExp k l = 0 ∨ lexExp k l = k ∨ lexExp k l = 2 := by
  unfold lexExp
  split
  · split
    · rcases lexDig_two l.tail.tail lexEnd_two with h | h
      · exact Or.inl h
      · exact Or.inr (Or.inr h)
    · rcases lexDig_two l.tail lexEnd_two with h | h
      · exact Or.inl h
      · exact Or.inr (Or.inr h)
  · rcases lexEnd_k k l with h | h
    · exact Or.inl h
    · exact Or.inr (Or.inl h)
theorem lexFrac_three (l : List UInt8) : lexFrac l = 0 ∨ lexFrac l = 1 ∨ lexFrac l = 2 := by
  unfold lexFrac
  split
  · rcases lexDig_two l.tail lexExp_two with h | h
    · exact Or.inl h
    · exact Or.inr (Or.inr h)
  · exact lexExp_k 1 l
theorem lexOf_three (l : List UInt8) : lexOf l = 0 ∨ lexOf l = 1 ∨ lexOf l = 2 := by
  have h : ∀ l, lexInt l = 0 ∨ lexInt l = 1 ∨ lexInt l = 2 := fun l => by
    unfold lexInt
    split
    · exact Or.inl rfl
    · exact lexFrac_three _
  unfold lexOf
  split <;> exact h _
theorem lex_val (t : ByteArray) (ht : t.size ≤ 1000) (l : List UInt8) (hl : t.data.toList = l) (x : Int) (hx : lexOf l = x) (w : World) :
    Calls Tryd.prog 21 #[.string t] w fun e w' => e = .returned (.int .i64 x) ∧ w = w' := by
  subst hl hx; exact lexeme_any t ht w
theorem wholeGoes_all (s : ByteArray) (n sign : Int) (hs : s.size ≤ maxLen) (n0 : 0 ≤ n) (n1 : n ≤ 18446744073709551615) (_g0 : -9223372036854775808 ≤ sign) (_g1 : sign ≤ 9223372036854775807) (w : World) (hL : Laid10 w) :
    Calls Tryd.prog 10 #[.string s, .int .u64 n, .int .i64 sign] w fun e w' => e = .returned (.bool true) ∧ Below w.heap.size w w' := by
  by_cases hl : 200 < s.size
  · exact wholeGoes_long s n sign hl w hL
  · have hE := isEmpty_size s
    by_cases hz : s.size = 0
    · rw [decide_eq_true hz] at hE
      exact wholeGoes_nil s n sign (by omega) hE w hL
    · rw [decide_eq_false hz] at hE
      have h0 : 0 < s.size := by omega
      have hdl : (Lib.decDigits n.toNat).length ≤ 20 := by rw [Lib.decDigits_length]; exact nDigits_of_lt 20 _ (by decide) (by omega)
      obtain ⟨d, hd⟩ : ∃ d : ByteArray, d = ⟨(Lib.decDigits n.toNat).toArray⟩ := ⟨_, rfl⟩
      have hdL : d.data.toList = Lib.decDigits n.toNat := by rw [hd]
      have hds : d.size ≤ 20 := by
        have e : d.data.toList.length = d.size := by simp
        rw [← e, hdL]; exact hdl
      have DG := fun w => digits5_any n n0 n1 w
      rw [← hd] at DG
      obtain ⟨pl, hpq, hpl, hpL⟩ : ∃ pl : ByteArray, ((sign % 2 + sign / 2 % 2 = 0 ∧ pl = { data := #[] }) ∨ (sign % 2 + sign / 2 % 2 = 1 ∧ pl = { data := #[43] }) ∨ (sign % 2 + sign / 2 % 2 = 2 ∧ pl = { data := #[45] })) ∧ pl.size ≤ 1 ∧ (pl.data.toList = [] ∨ pl.data.toList = [43] ∨ pl.data.toList = [45]) := by
        rcases (show sign % 2 + sign / 2 % 2 = 0 ∨ sign % 2 + sign / 2 % 2 = 1 ∨ sign % 2 + sign / 2 % 2 = 2 by omega) with h | h | h
        · exact ⟨{ data := #[] }, Or.inl ⟨h, rfl⟩, by decide, Or.inl rfl⟩
        · exact ⟨{ data := #[43] }, Or.inr (Or.inl ⟨h, rfl⟩), by decide, Or.inr (Or.inl rfl)⟩
        · exact ⟨{ data := #[45] }, Or.inr (Or.inr ⟨h, rfl⟩), by decide, Or.inr (Or.inr rfl)⟩
      obtain ⟨l, hll⟩ : ∃ l, s.data.toList = l := ⟨_, rfl⟩
      have hpp : (sign % 2 = 0 ∨ sign % 2 = 1) ∧ (sign / 2 % 2 = 0 ∨ sign / 2 % 2 = 1) := by omega
      have LM : ∀ κ, lexOf l = κ → (((s[0]'h0).toNat : Int) != 45) = true → ∀ w, Calls Tryd.prog 21 #[.string (({ data := #[45] } : ByteArray) ++ s)] w fun e w' => e = .returned (.int .i64 κ) ∧ w = w' := by
        intro κ hκ hm
        have hh := hd_at s h0 45 45
        rw [Bool.or_self, hll, beq_eq_false_iff_ne.2 (bne_iff_ne.1 hm)] at hh
        refine lex_val _ (by rw [ByteArray.size_append]; show 1 + s.size ≤ 1000; omega) (45 :: l) (by simp [hll]) κ ?_
        rw [← hκ, lexOf_plain hh]; rfl
      have L0 := fun (κ : Int) (hκ : lexOf l = κ) => lex_val s (by omega) l hll κ hκ
      have sz : ∀ (c : UInt8), ({ data := #[c] } : ByteArray).size = 1 := fun _ => rfl
      rcases lexOf_three l with hκ | hκ | hκ
      · exact wholeGoes_0 s d pl n sign _ _ (by omega) hds hpl hE h0 (i64_and1 _) (i64_and1 _) hpp hpq (L0 0 hκ) DG (LM 0 hκ) w hL
      · refine wholeGoes_1 s d pl n sign _ _ (by omega) hds hpl hE h0 (i64_and1 _) (i64_and1 _) hpp hpq (L0 1 hκ) DG (LM 1 hκ) ?_ ?_ ?_ ?_ w hL
        · refine lex_val _ (by simp only [ByteArray.size_append, sz]; omega) (l ++ (46 :: Lib.decDigits n.toNat)) (by simp [hll, hdL]) 2 ?_
          rw [int_app hκ rfl, point_dec]
        · refine lex_val _ (by simp only [ByteArray.size_append, sz]; omega) (l ++ (101 :: (pl.data.toList ++ Lib.decDigits n.toNat))) (by simp [hll, hdL]) 2 ?_
          rw [int_app hκ rfl, lexFrac_exp rfl]
          exact exp_dec 1 101 rfl _ hpL _
        · refine lex_val _ (by simp only [ByteArray.size_append, sz]; omega) (l ++ (46 :: (Lib.decDigits n.toNat ++ (69 :: (pl.data.toList ++ Lib.decDigits n.toNat))))) (by simp [hll, hdL]) 2 ?_
          rw [int_app hκ rfl]
          exact point_exp_dec _ _ _ hpL
        · refine lex_val _ (by simp only [ByteArray.size_append, sz]; omega) (l ++ [46]) (by simp [hll]) 0 ?_
          rw [int_app hκ rfl]; rfl
      · refine wholeGoes_2 s d pl n sign _ _ (by omega) hds hpl hE h0 (i64_and1 _) (i64_and1 _) hpp hpq (L0 2 hκ) DG (LM 2 hκ) ?_ ?_ ?_ w hL
        · refine lex_val _ (by simp only [ByteArray.size_append]; omega) (l ++ Lib.decDigits n.toNat) (by simp [hll, hdL]) 2 ?_
          exact frac_app hκ (end_dec _).1 (end_dec _).2
        · refine lex_val _ (by simp only [ByteArray.size_append, sz]; omega) (48 :: l) (by simp [hll]) 0 ?_
          exact nought_app hκ
        · refine lex_val _ (by simp only [ByteArray.size_append, sz]; omega) (l ++ [32]) (by simp [hll]) 0 ?_
          exact frac_app hκ (by decide) (by decide)
end Go.Proofs.YtdfpknomhambcaaDoor
