/- Parts of the proof of TopLooks: U29, U30, U31, U51, U52. No condition. -/
import Derived.Test.YtihnfhhopldllaaGreatDoorJ1
import Derived.Test.YtihnfhhopldllaaGreatDoorJ26
import Derived.Test.YtihnfhhopldllaaGreatDoorJ27
namespace Go.Proofs.YtihnfhhopldllaaGreatDoor
set_option linter.unusedSimpArgs false
set_option linter.unusedVariables false
set_option maxHeartbeats 6400000
set_option maxRecDepth 100000
section
open Go.RowKit
theorem w1_is_m (w : World) : Calls Tryz.prog 100 #[.string { data := #[49] }, .int .i64 0, .int .u8 45, .int .u8 45] w fun e w' => e = .returned (.bool false) ∧ w = w' := by
  go_enter Tryz.func100, Tryz.ntmps100
  go_wp2_with fail
  go_ret
  exact ⟨rfl, rfl⟩
theorem w1_is_p (w : World) : Calls Tryz.prog 100 #[.string { data := #[49] }, .int .i64 1, .int .u8 46, .int .u8 46] w fun e w' => e = .returned (.bool false) ∧ w = w' := by
  go_enter Tryz.func100, Tryz.ntmps100
  go_wp2_with fail
  go_ret
  exact ⟨rfl, rfl⟩
theorem w1_is_e (w : World) : Calls Tryz.prog 100 #[.string { data := #[49] }, .int .i64 1, .int .u8 101, .int .u8 69] w fun e w' => e = .returned (.bool false) ∧ w = w' := by
  go_enter Tryz.func100, Tryz.ntmps100
  go_wp2_with fail
  go_ret
  exact ⟨rfl, rfl⟩
theorem w1_digits (w : World) : Calls Tryz.prog 101 #[.string { data := #[49] }, .int .i64 0] w fun e w' => e = .returned (.int .i64 1) ∧ w = w' := by
  go_enter Tryz.func101, Tryz.ntmps101
  go_wp2_with fail
  go_loopw [1] (fun x wr => (x = .int .i64 0 ∨ x = .int .i64 1) ∧ w = wr) (fun x _ => 1 - (intOf x).toNat)
  case atStart => exact ⟨.inl rfl, rfl⟩
  case round =>
    obtain ⟨rfl | rfl, rfl⟩ := hrel
    · go_wp2_with fail
      go_roundw
      case rel => exact ⟨.inr rfl, by first | rfl | trivial⟩
      case measure => simp [intOf]
    · go_wp2_with fail
      go_ret
      exact ⟨rfl, rfl⟩
theorem w1_lex (w : World) : Calls Tryz.prog 56 #[.string { data := #[49] }] w fun e w' => e = .returned (.int .i64 1) ∧ w = w' := by
  go_enter Tryz.func56, Tryz.ntmps56
  go_wp2_with fail
  with_reducible refine (w1_is_m _).mono ?_
  rintro e w' ⟨rfl, rfl⟩
  go_wp2_with fail
  with_reducible refine (w1_digits _).mono ?_
  rintro e w' ⟨rfl, rfl⟩
  go_wp2_with fail
  with_reducible refine (w1_is_p _).mono ?_
  rintro e w' ⟨rfl, rfl⟩
  go_wp2_with fail
  with_reducible refine (w1_is_e _).mono ?_
  rintro e w' ⟨rfl, rfl⟩
  go_wp2_with fail
  go_ret
  exact ⟨rfl, rfl⟩
theorem jchk_N (k : Nat) : JChk k (jN [49]) := fun Q w v h => by
  obtain ⟨ad, c, rfl⟩ := isJ_form h
  clear h
  show Calls Tryz.prog 62 #[.agg #[.int .i64 4, .string { data := #[49] }, .slice ad 0 c]] w _
  go_enter Tryz.func62, Tryz.ntmps62
  go_wp2_with fail
  go_loopw [49] (fun x wr => x = .int .i64 0 ∧ wr = w.alloc (.cells #[.int .i64 4, .string { data := #[49] }, .slice ad 0 c] 77)) (fun _ _ => 0)
  case atStart => exact ⟨rfl, rfl⟩
  case round =>
    obtain ⟨rfl, rfl⟩ := hrel
    go_wp2_with fail
    with_reducible refine (w1_lex _).mono ?_
    rintro e w' ⟨rfl, rfl⟩
    go_wp2_with fail
    go_loopw [89] (fun x wr => x = .int .i64 0 ∧ wr = w.alloc (.cells #[.int .i64 4, .string { data := #[49] }, .slice ad 0 c] 77)) (fun _ _ => 0)
    case atStart => exact ⟨rfl, rfl⟩
    case round =>
      obtain ⟨rfl, rfl⟩ := hrel
      go_wp2_with fail
      go_ret
      exact ⟨rfl, bel⟩
end
section
open Go.RowKit
theorem dec_1 : Lib.decDigits 1 = [49] := by first | decide | (unfold Lib.decDigits; rfl) | (unfold Lib.decDigits; simp)
theorem wtext_1 (w : World) : Calls Tryz.prog 58 #[.int .i64 1] w fun e w' => e = .returned (.string { data := #[49] }) ∧ w = w' := by
  have H1 : Hid (∀ w : World, Calls Tryz.prog 104 #[.int .i64 1, .int .i64 10] w fun e w' => e = .returned (.string { data := #[49] }) ∧ w = w') := Lib.hid (fun w => (Tryz.strconv_FormatInt_10_small 1 (by omega) w).mono (fun e w' h => ⟨by rw [h.1, dec_1], h.2.symm⟩))
  go_enter Tryz.func58, Tryz.ntmps58
  go_wp2_with fail
  with_reducible refine (H1.out _).mono ?_
  rintro e w' ⟨rfl, rfl⟩
  go_wp2_with fail
  go_ret
  exact ⟨rfl, rfl⟩
theorem xnum_any (s : ByteArray) (w : World) : Calls Tryz.prog 185 #[.string s] w fun e w' => e = .returned (.agg #[.int .i64 4, .string s, .slice none 0 0]) ∧ Below w.heap.size w w' := by
  go_enter Tryz.func185, Tryz.ntmps185
  go_wp2_with fail
  refine bodyPost_ret (v := .agg #[.int .i64 4, .string s, .slice none 0 0]) (by simp (maxDischargeDepth := 3) [results, Tryz.results185, go_sem]) rfl ?_
  exact ⟨rfl, bel⟩
theorem xval_I (k : Nat) : xVal (jN [49]) k vI := fun Q w v h => by
  obtain ⟨bv, s, rfl, ⟨bd, bc, rfl, _⟩, hk⟩ := h
  obtain ⟨ad, c, rfl⟩ := hk.slice
  clear hk
  rw [docJ_vI]
  show Calls Tryz.prog 109 #[.agg #[.int .i64 16, .int .u64 1, .int .u64 0, .int .u64 0, .string { data := #[] }, .string { data := #[] }, .int .i64 0, .slice bd 0 bc, .slice ad 0 c]] w _
  have HS : Hid (∀ (w' : World), Is .J (fun b => w.heap.size ≤ b) w' (2 * k + 1) (jN [49]) (.agg #[.int .i64 4, .string { data := #[49] }, .slice none 0 0])) := Lib.hid (fun w' => ⟨.slice none 0 0, .slice none 0 0, rfl, True.intro, Kd.nil _ _ _ _ _ _⟩)
  go_enter Tryz.func109, Tryz.ntmps109
  go_wp2_with fail
  with_reducible refine (wtext_1 _).mono ?_
  rintro e w' ⟨rfl, rfl⟩
  go_wp2_with fail
  with_reducible refine (xnum_any _ _).mono ?_
  rintro e w1 ⟨rfl, hb1⟩
  obtain ⟨c1_0, f1_0⟩ := cf hb1 (w.heap.size + 1) 0 (.int .i64 0)
  obtain ⟨c1_1, f1_1⟩ := cf hb1 (w.heap.size + 1) 1 (.string { data := #[] })
  obtain ⟨c1_2, f1_2⟩ := cf hb1 (w.heap.size + 1) 2 (.slice none 0 0)
  have hl1_0 := ltB hb1 (w.heap.size + 1)
  have hw1 := bwB hb1 w.heap.size w
  have hz1 := hw1.size
  clear hb1
  go_wp2_with fail
  refine bodyPost_ret (v := .agg #[.int .i64 4, .string { data := #[49] }, .slice none 0 0]) (by simp (maxDischargeDepth := 4) [results, Tryz.results109, go_sem, c1_0, c1_1, c1_2, f1_0, f1_1, f1_2]) rfl ?_
  exact ⟨⟨_, rfl, HS.out _⟩, bel⟩
end
section
open Go.RowKit
theorem cone_nInt (jv : Value) (B : Nat) (w : World) (hj : Is .J (fun b => B ≤ b) w 0 (jS [49]) jv) (hB : B ≤ w.heap.size) :
    Calls Tryz.prog 177 #[.string { data := #[36, 110, 117, 109, 98, 101, 114, 73, 110, 116] }, jv] w fun e w' => (∃ v, e = .returned v ∧ Is .J (fun b => B ≤ b) w' 1 (jO [(nInt, jS [49])]) v) ∧ Below w.heap.size w w' := cone_any nInt (jS [49]) 0 jv B w hj hB
theorem cnum_I (bd ad : Option Addr) (bc c : Nat) (w : World) : Calls Tryz.prog 182 #[.agg #[.int .i64 16, .int .u64 1, .int .u64 0, .int .u64 0, .string { data := #[] }, .string { data := #[] }, .int .i64 0, .slice bd 0 bc, .slice ad 0 c]] w fun e w' => (∃ jad jc, e = .returned (.tuple #[.agg #[.int .i64 7, .string { data := #[] }, .slice jad 1 jc], .bool true]) ∧ Is .J (fun b => w.heap.size ≤ b) w' 1 (jO [(nInt, jS [49])]) (.agg #[.int .i64 7, .string { data := #[] }, .slice jad 1 jc])) ∧ Below w.heap.size w w' := by
  go_enter Tryz.func182, Tryz.ntmps182
  go_wp2_with fail
  with_reducible refine (wtext_1 _).mono ?_
  rintro e w' ⟨rfl, rfl⟩
  go_wp2_with fail
  with_reducible refine (cstr_any _ _).mono ?_
  rintro e w1 ⟨rfl, hb1⟩
  obtain ⟨c1_0, f1_0⟩ := cf hb1 (w.heap.size + 1) 0 (.int .i64 0)
  obtain ⟨c1_1, f1_1⟩ := cf hb1 (w.heap.size + 1) 1 (.string { data := #[] })
  obtain ⟨c1_2, f1_2⟩ := cf hb1 (w.heap.size + 1) 2 (.slice none 0 0)
  have hl1_0 := ltB hb1 (w.heap.size + 1)
  have hw1 := bwB hb1 w.heap.size w
  have hz1 := hw1.size
  clear hb1
  go_wp2_with fail
  with_reducible refine (cone_nInt _ (w.heap.size + 2) _ ?hj1 ?hj2).mono ?_
  case hj1 => exact is_jS (x := [49])
  case hj2 => have := hw1.size; omega
  rintro e w2 ⟨⟨jv, rfl, hj2⟩, hb2⟩
  obtain ⟨c2_0, f2_0⟩ := cf hb2 (w.heap.size + 1) 0 (.int .i64 0)
  obtain ⟨c2_1, f2_1⟩ := cf hb2 (w.heap.size + 1) 1 (.string { data := #[] })
  obtain ⟨c2_2, f2_2⟩ := cf hb2 (w.heap.size + 1) 2 (.slice none 0 0)
  have hl2_0 := ltB hb2 (w.heap.size + 1)
  have hw2 := bwB hb2 w.heap.size w
  have hz2 := hw2.size
  clear hb2
  obtain ⟨jad2, jc2, hje⟩ := isJ_form hj2
  have hje2 : jv = .agg #[.int .i64 7, .string { data := #[] }, .slice jad2 1 jc2] := hje
  clear hje
  subst hje2
  go_wp2_with fail
  refine bodyPost_ret (v := .tuple #[.agg #[.int .i64 7, .string { data := #[] }, .slice jad2 1 jc2], .bool true]) (by simp (maxDischargeDepth := 4) [results, Tryz.results182, go_sem, c2_0, f2_0, c2_1, f2_1, c2_2, f2_2]) rfl ?_
  exact ⟨⟨_, _, rfl, ((((hj2.keeps (Keeps.refl _ _)).keeps (Keeps.setCell (p := ⟨w.heap.size + 1, 0, none⟩) (by show ¬ _ ≤ w.heap.size + 1; omega) _)).keeps (Keeps.setCell (p := ⟨w.heap.size + 1, 1, none⟩) (by show ¬ _ ≤ w.heap.size + 1; omega) _)).keeps (Keeps.setCell (p := ⟨w.heap.size + 1, 2, none⟩) (by show ¬ _ ≤ w.heap.size + 1; omega) _)).mono (fun b hb _ => by omega)⟩, bel⟩
theorem cval_I (k : Nat) : cVal (jO [(nInt, jS [49])]) k vI := fun Q w v h => by
  obtain ⟨bv, s, rfl, ⟨bd, bc, rfl, _⟩, hk⟩ := h
  obtain ⟨ad, c, rfl⟩ := hk.slice
  clear hk
  rw [docJ_vI]
  show Calls Tryz.prog 106 #[.agg #[.int .i64 16, .int .u64 1, .int .u64 0, .int .u64 0, .string { data := #[] }, .string { data := #[] }, .int .i64 0, .slice bd 0 bc, .slice ad 0 c]] w _
  go_enter Tryz.func106, Tryz.ntmps106
  go_wp2_with fail
  with_reducible refine (cnum_I _ _ _ _ _).mono ?_
  rintro e w1 ⟨⟨jad2, jc2, rfl, hj2⟩, hb1⟩
  obtain ⟨c1_0, f1_0⟩ := cf hb1 (w.heap.size + 1) 0 (.int .i64 0)
  obtain ⟨c1_1, f1_1⟩ := cf hb1 (w.heap.size + 1) 1 (.string { data := #[] })
  obtain ⟨c1_2, f1_2⟩ := cf hb1 (w.heap.size + 1) 2 (.slice none 0 0)
  have hl1_0 := ltB hb1 (w.heap.size + 1)
  have hw1 := bwB hb1 w.heap.size w
  have hz1 := hw1.size
  clear hb1
  replace hj2 := Lib.hid (hj2.mono (Q' := fun b => w.heap.size + 2 ≤ b) (fun b hb _ => by simp at hb; omega))
  have hlx : w.heap.size < w1.heap.size := by omega
  have hly : w.heap.size ≠ w1.heap.size := by omega
  have hlz : w.heap.size + 1 ≠ w1.heap.size := by omega
  go_wp2_with fail
  refine bodyPost_ret (v := .agg #[.int .i64 7, .string { data := #[] }, .slice jad2 1 jc2]) (by simp (maxDischargeDepth := 4) [results, Tryz.results106, go_sem, hl1_0, hlx, hly, hlz, c1_0, f1_0, c1_1, f1_1, c1_2, f1_2]) rfl ?_
  exact ⟨⟨_, rfl, (((((hj2.out.more (by omega : 1 ≤ 2 * k + 1)).keeps (Keeps.setCell (p := ⟨w.heap.size + 1, 0, none⟩) (by show ¬ _ ≤ w.heap.size + 1; omega) _)).keeps (Keeps.setCell (p := ⟨w.heap.size + 1, 1, none⟩) (by show ¬ _ ≤ w.heap.size + 1; omega) _)).keeps (Keeps.setCell (p := ⟨w.heap.size + 1, 2, none⟩) (by show ¬ _ ≤ w.heap.size + 1; omega) _)).keeps (Keeps.alloc _ _)).mono (fun b hb _ => by omega)⟩, bel⟩
end
section
open Go.RowKit
theorem evalue_5 (tx : ByteArray) (ad : Option Addr) (n c : Nat) (p : Value) (w : World) :
    Calls Tryz.prog 119 #[.agg #[.int .i64 5, .string tx, .slice ad n c], p] w fun e w' => e = .returned (.tuple #[.agg #[.int .i64 2, .int .u64 0, .int .u64 0, .int .u64 0, .string tx, .string { data := #[] }, .int .i64 0, .slice none 0 0, .slice none 0 0], .agg #[.int .i64 0, .int .i64 0, .slice none 0 0]]) ∧ Below w.heap.size w w' := by
  go_enter Tryz.func119, Tryz.ntmps119
  go_wp2_with fail
  refine bodyPost_ret (v := .tuple #[.agg #[.int .i64 2, .int .u64 0, .int .u64 0, .int .u64 0, .string tx, .string { data := #[] }, .int .i64 0, .slice none 0 0, .slice none 0 0], .agg #[.int .i64 0, .int .i64 0, .slice none 0 0]]) (by simp (maxDischargeDepth := 4) [results, Tryz.results119, go_sem]) rfl ?_
  exact ⟨rfl, bel⟩
theorem eval_S (d k : Nat) (x : List UInt8) : EVal d k (jS x) (vS x) := fun Q w v p n B h hp hn hB hQ => by
  obtain ⟨ad, c, rfl⟩ := isJ_form h
  refine (evalue_5 (bs x) ad 0 c p w).mono ?_
  rintro e w' ⟨rfl, hb⟩
  exact ⟨⟨_, rfl, ⟨.slice none 0 0, .slice none 0 0, rfl, By.nil _ _, Kd.nil _ _ _ _ _ _⟩⟩, grown_below hb _, hp.beyond hb⟩
end
section
open Go.RowKit
theorem pa_set {w : World} {B : Nat} {e : TypeId} {v : Value} {n : Nat} (h : Pa w B e v n) {a : Addr} (ha : ∀ g, v.ownBlock = some g → g ≠ a.block) (u : Value) : Pa (w.setCell a u) B e v n := h.block fun g hg => heap_setCell_other w a g u (ha g hg)
def EPl (d k : Nat) (lj lv : KL) : Prop := ∀ (Q : Nat → Prop) (ad : Option Addr) (m c : Nat) (p : Value) (n B : Nat) (w : World), lj.length = m → n + (k + 1) ≤ 900 → Kd .J Q w (d + 1) lj (.slice ad m c) → Pa w B 3 p n → B ≤ w.heap.size → (∀ b, Q b → b < w.heap.size → p.ownBlock ≠ some b) →
    Calls Tryz.prog 70 #[.slice ad m c, p] w fun e w' => (∃ V, e = .returned (.tuple #[V, .agg #[.int .i64 0, .int .i64 0, .slice none 0 0]]) ∧ Bd .V 51 w' w.heap.size k lv V) ∧ w.grownBy w' p.ownBlock ∧ Pa w' B 3 p n
theorem evalue_7 (d k : Nat) (lj lv : KL) (hE : EPl d k lj lv) (hdol : dol lj = false) (tx : ByteArray) (Q : Nat → Prop) (ad : Option Addr) (m c : Nat) (hm : lj.length = m) (hv : lv.length = m) (p : Value) (n B : Nat) (hn : n + (k + 1) ≤ 900) (w : World) (hk : Kd .J Q w (d + 1) lj (.slice ad m c)) (hp : Pa w B 3 p n) (hB : B ≤ w.heap.size) (hQ : ∀ b, Q b → b < w.heap.size → p.ownBlock ≠ some b) :
    Calls Tryz.prog 119 #[.agg #[.int .i64 7, .string tx, .slice ad m c], p] w fun e w' => (∃ s, e = .returned (.tuple #[.agg #[.int .i64 3, .int .u64 0, .int .u64 0, .int .u64 0, .string { data := #[] }, .string { data := #[] }, .int .i64 0, .slice none 0 0, s], .agg #[.int .i64 0, .int .i64 0, .slice none 0 0]]) ∧ Kd .V (fun b => w.heap.size ≤ b) w' (k + 1) lv s) ∧ w.grownBy w' p.ownBlock ∧ Pa w' B 3 p n := by
  have hpl := hp.lt
  have HPL : Hid (∀ w1, Kd .J (fun b => Q b ∧ b < w.heap.size) w1 (d + 1) lj (.slice ad m c) → Pa w1 B 3 p n → B ≤ w1.heap.size → Calls Tryz.prog 70 #[.slice ad m c, p] w1 fun e w' => (∃ V, e = .returned (.tuple #[V, .agg #[.int .i64 0, .int .i64 0, .slice none 0 0]]) ∧ Bd .V 51 w' w1.heap.size k lv V) ∧ w1.grownBy w' p.ownBlock ∧ Pa w' B 3 p n) := Lib.hid (fun w1 h1 h2 h3 => hE (fun b => Q b ∧ b < w.heap.size) ad m c p n B w1 hm hn h1 h2 h3 (fun b hb _ => hQ b hb.1 hb.2))
  have HK := Lib.hid (hk.mono (Q' := fun b => Q b ∧ b < w.heap.size) (fun b hb hl => ⟨hb, hl⟩))
  have HP := Lib.hid hp
  have HLV := Lib.hid hv
  have HW := Lib.hid (fun ad n c w => with_any 3 ad n c w)
  by_cases hm0 : m = 0
  · subst hm0
    clear hE hv hm hk hp hQ hdol
    go_enter Tryz.func119, Tryz.ntmps119
    go_wp2_with fail
    with_reducible refine (HPL.out _ ?hk ?hp ?hB2).mono ?_
    case hk => exact HK.out.beyond bel
    case hp => exact HP.out.beyond bel
    case hB2 => (simp; omega)
    rintro e w1 ⟨⟨V, rfl, hV⟩, hb1, hP1⟩
    have hk1 := Lib.hid (hV.low (base' := w.heap.size + 1 + 1 + 1) (by simp)).done
    clear hV
    obtain ⟨vd, vc, rfl⟩ := hk1.out.slice
    simp only [HLV.out] at hk1 ⊢
    obtain ⟨c1_0, f1_0⟩ := cfR hb1 w.heap.size 0 (.int .i64 7) (fun e => by have := hpl _ e; omega)
    obtain ⟨c1_1, f1_1⟩ := cfR hb1 w.heap.size 1 (.string tx) (fun e => by have := hpl _ e; omega)
    obtain ⟨c1_2, f1_2⟩ := cfR hb1 w.heap.size 2 (.slice ad 0 c) (fun e => by have := hpl _ e; omega)
    obtain ⟨c1_3, f1_3⟩ := cfR hb1 (w.heap.size + 1) 0 (.int .i64 0) (fun e => by have := hpl _ e; omega)
    obtain ⟨c1_4, f1_4⟩ := cfR hb1 (w.heap.size + 1) 1 (.int .u64 0) (fun e => by have := hpl _ e; omega)
    obtain ⟨c1_5, f1_5⟩ := cfR hb1 (w.heap.size + 1) 2 (.int .u64 0) (fun e => by have := hpl _ e; omega)
    obtain ⟨c1_6, f1_6⟩ := cfR hb1 (w.heap.size + 1) 3 (.int .u64 0) (fun e => by have := hpl _ e; omega)
    obtain ⟨c1_7, f1_7⟩ := cfR hb1 (w.heap.size + 1) 4 (.string { data := #[] }) (fun e => by have := hpl _ e; omega)
    obtain ⟨c1_8, f1_8⟩ := cfR hb1 (w.heap.size + 1) 5 (.string { data := #[] }) (fun e => by have := hpl _ e; omega)
    obtain ⟨c1_9, f1_9⟩ := cfR hb1 (w.heap.size + 1) 6 (.int .i64 0) (fun e => by have := hpl _ e; omega)
    obtain ⟨c1_10, f1_10⟩ := cfR hb1 (w.heap.size + 1) 7 (.slice none 0 0) (fun e => by have := hpl _ e; omega)
    obtain ⟨c1_11, f1_11⟩ := cfR hb1 (w.heap.size + 1) 8 (.slice none 0 0) (fun e => by have := hpl _ e; omega)
    obtain ⟨c1_12, f1_12⟩ := cfR hb1 (w.heap.size + 1 + 1) 0 (.int .i64 0) (fun e => by have := hpl _ e; omega)
    obtain ⟨c1_13, f1_13⟩ := cfR hb1 (w.heap.size + 1 + 1) 1 (.int .i64 0) (fun e => by have := hpl _ e; omega)
    obtain ⟨c1_14, f1_14⟩ := cfR hb1 (w.heap.size + 1 + 1) 2 (.slice none 0 0) (fun e => by have := hpl _ e; omega)
    have hs1 := hb1.size
    (try simp at hs1)
    have hl1_0 : w.heap.size < w1.heap.size := by first | omega | (simp at hs1; omega)
    have hl1_1 : w.heap.size + 1 < w1.heap.size := by first | omega | (simp at hs1; omega)
    have hl1_2 : w.heap.size + 1 + 1 < w1.heap.size := by first | omega | (simp at hs1; omega)
    have hw1 : w.grownBy w1 p.ownBlock := grown_trans (by repeat' (first | (with_reducible assumption) | (with_reducible exact grown_refl _ _) | (with_reducible refine grown_drew ?_) | (with_reducible refine grown_set_none ?_ (by dsimp only; omega) _) | (with_reducible refine grown_alloc ?_ _))) hb1
    have hz1 := hw1.size
    clear hb1 hs1
    go_wp2_with fail
    with_reducible refine (HW.out _ _ _ _).mono ?_
    rintro e w2 ⟨rfl, hb2⟩
    obtain ⟨c2_0, f2_0⟩ := cf hb2 (w.heap.size + 1) 0 (.int .i64 0)
    obtain ⟨c2_1, f2_1⟩ := cf hb2 (w.heap.size + 1) 1 (.int .u64 0)
    obtain ⟨c2_2, f2_2⟩ := cf hb2 (w.heap.size + 1) 2 (.int .u64 0)
    obtain ⟨c2_3, f2_3⟩ := cf hb2 (w.heap.size + 1) 3 (.int .u64 0)
    obtain ⟨c2_4, f2_4⟩ := cf hb2 (w.heap.size + 1) 4 (.string { data := #[] })
    obtain ⟨c2_5, f2_5⟩ := cf hb2 (w.heap.size + 1) 5 (.string { data := #[] })
    obtain ⟨c2_6, f2_6⟩ := cf hb2 (w.heap.size + 1) 6 (.int .i64 0)
    obtain ⟨c2_7, f2_7⟩ := cf hb2 (w.heap.size + 1) 7 (.slice none 0 0)
    obtain ⟨c2_8, f2_8⟩ := cf hb2 (w.heap.size + 1) 8 (.slice none 0 0)
    obtain ⟨c2_9, f2_9⟩ := cf hb2 (w.heap.size + 1 + 1) 0 (.int .i64 0)
    obtain ⟨c2_10, f2_10⟩ := cf hb2 (w.heap.size + 1 + 1) 1 (.int .i64 0)
    obtain ⟨c2_11, f2_11⟩ := cf hb2 (w.heap.size + 1 + 1) 2 (.slice none 0 0)
    have hl2_0 := ltB hb2 (w.heap.size + 1)
    have hl2_1 := ltB hb2 (w.heap.size + 1 + 1)
    have hw2 := bwB hb2 w1.heap.size w1
    have hz2 := hw2.size
    clear hb2
    go_wp2_with fail
    refine bodyPost_ret (v := .tuple #[.agg #[.int .i64 3, .int .u64 0, .int .u64 0, .int .u64 0, .string { data := #[] }, .string { data := #[] }, .int .i64 0, .slice none 0 0, .slice vd 0 vc], .agg #[.int .i64 0, .int .i64 0, .slice none 0 0]]) (by simp (maxDischargeDepth := 4) [results, Tryz.results119, go_sem, c2_0, f2_0, c2_1, f2_1, c2_2, f2_2, c2_3, f2_3, c2_4, f2_4, c2_5, f2_5, c2_6, f2_6, c2_7, f2_7, c2_8, f2_8, c2_9, f2_9, c2_10, f2_10, c2_11, f2_11]) rfl ?_
    have hk2 := hk1.out.keeps (Keeps.beyond hw2)
    have hg2 := grown_trans hw1 (grown_below hw2 p.ownBlock)
    have hp2 := hP1.beyond hw2
    refine ⟨⟨_, rfl, (hk2.keeps ?_).mono (fun b hb _ => by omega)⟩, ?_, ?_⟩
    · repeat' (first | (with_reducible exact Keeps.refl _ _) | (with_reducible refine keeps_set ?_ (by dsimp only; omega) _))
    · repeat' (first | (with_reducible assumption) | (with_reducible exact grown_refl _ _) | (with_reducible refine grown_drew ?_) | (with_reducible refine grown_set_none ?_ (by dsimp only; omega) _) | (with_reducible refine grown_alloc ?_ _))
    · repeat' (first | (with_reducible assumption) | (with_reducible refine pa_set ?_ (fun g hg => by have := hpl _ hg; dsimp only; omega) _))
  · obtain ⟨⟨kn, kx⟩, hkx⟩ : ∃ x, lj[0]? = some x := ⟨_, List.getElem?_eq_getElem (by omega)⟩
    have hpre := dol_pre hkx
    rw [hdol] at hpre
    have H1 : Hid (∀ w : World, Calls Tryz.prog 176 #[.string (bs kn), .string { data := #[36] }] w fun e w' => e = .returned (.bool false) ∧ w = w') := Lib.hid (fun w => (Tryz.strings_HasPrefix (bs kn) { data := #[36] } w).mono (fun e w' h => ⟨by rw [h.1]; exact congrArg (fun b => Ending.returned (.bool b)) hpre.symm, h.2.symm⟩))
    obtain ⟨b, o, bv, s, rfl, hqb, hbl, hra, hby, hkd⟩ := hk.at hkx
    obtain ⟨r0, _, _, _⟩ := rowJ hra
    simp only [Nat.zero_mul, Nat.add_zero] at r0
    obtain ⟨V0, hV0⟩ : ∃ x, bs kn = x := ⟨_, rfl⟩
    rw [hV0] at r0 H1
    have h1 : b ≠ w.heap.size := by omega
    have h2 : b ≠ w.heap.size + 1 := by omega
    have h3 : b ≠ w.heap.size + 1 + 1 := by omega
    have h4 : b < w.heap.size + 1 := by omega
    have h5 : b < w.heap.size + 1 + 1 := by omega
    have hm1 : 0 < m := by omega
    clear hE hv hm hk hp hQ hdol hra hby hkd hV0 hkx hpre
    go_enter Tryz.func119, Tryz.ntmps119
    go_wp2_with fail
    with_reducible refine (H1.out _).mono ?_
    rintro e w' ⟨rfl, rfl⟩
    go_wp2_with fail
    with_reducible refine (HPL.out _ ?hk ?hp ?hB2).mono ?_
    case hk => exact HK.out.beyond bel
    case hp => exact HP.out.beyond bel
    case hB2 => (simp; omega)
    rintro e w1 ⟨⟨V, rfl, hV⟩, hb1, hP1⟩
    have hk1 := Lib.hid (hV.low (base' := w.heap.size + 1 + 1 + 1) (by simp)).done
    clear hV
    obtain ⟨vd, vc, rfl⟩ := hk1.out.slice
    simp only [HLV.out] at hk1 ⊢
    obtain ⟨c1_0, f1_0⟩ := cfR hb1 w.heap.size 0 (.int .i64 7) (fun e => by have := hpl _ e; omega)
    obtain ⟨c1_1, f1_1⟩ := cfR hb1 w.heap.size 1 (.string tx) (fun e => by have := hpl _ e; omega)
    obtain ⟨c1_2, f1_2⟩ := cfR hb1 w.heap.size 2 (.slice (some ⟨b, o, none⟩) m c) (fun e => by have := hpl _ e; omega)
    obtain ⟨c1_3, f1_3⟩ := cfR hb1 (w.heap.size + 1) 0 (.int .i64 0) (fun e => by have := hpl _ e; omega)
    obtain ⟨c1_4, f1_4⟩ := cfR hb1 (w.heap.size + 1) 1 (.int .u64 0) (fun e => by have := hpl _ e; omega)
    obtain ⟨c1_5, f1_5⟩ := cfR hb1 (w.heap.size + 1) 2 (.int .u64 0) (fun e => by have := hpl _ e; omega)
    obtain ⟨c1_6, f1_6⟩ := cfR hb1 (w.heap.size + 1) 3 (.int .u64 0) (fun e => by have := hpl _ e; omega)
    obtain ⟨c1_7, f1_7⟩ := cfR hb1 (w.heap.size + 1) 4 (.string { data := #[] }) (fun e => by have := hpl _ e; omega)
    obtain ⟨c1_8, f1_8⟩ := cfR hb1 (w.heap.size + 1) 5 (.string { data := #[] }) (fun e => by have := hpl _ e; omega)
    obtain ⟨c1_9, f1_9⟩ := cfR hb1 (w.heap.size + 1) 6 (.int .i64 0) (fun e => by have := hpl _ e; omega)
    obtain ⟨c1_10, f1_10⟩ := cfR hb1 (w.heap.size + 1) 7 (.slice none 0 0) (fun e => by have := hpl _ e; omega)
    obtain ⟨c1_11, f1_11⟩ := cfR hb1 (w.heap.size + 1) 8 (.slice none 0 0) (fun e => by have := hpl _ e; omega)
    obtain ⟨c1_12, f1_12⟩ := cfR hb1 (w.heap.size + 1 + 1) 0 (.int .i64 0) (fun e => by have := hpl _ e; omega)
    obtain ⟨c1_13, f1_13⟩ := cfR hb1 (w.heap.size + 1 + 1) 1 (.int .i64 0) (fun e => by have := hpl _ e; omega)
    obtain ⟨c1_14, f1_14⟩ := cfR hb1 (w.heap.size + 1 + 1) 2 (.slice none 0 0) (fun e => by have := hpl _ e; omega)
    have hs1 := hb1.size
    (try simp at hs1)
    have hl1_0 : w.heap.size < w1.heap.size := by first | omega | (simp at hs1; omega)
    have hl1_1 : w.heap.size + 1 < w1.heap.size := by first | omega | (simp at hs1; omega)
    have hl1_2 : w.heap.size + 1 + 1 < w1.heap.size := by first | omega | (simp at hs1; omega)
    have hw1 : w.grownBy w1 p.ownBlock := grown_trans (by repeat' (first | (with_reducible assumption) | (with_reducible exact grown_refl _ _) | (with_reducible refine grown_drew ?_) | (with_reducible refine grown_set_none ?_ (by dsimp only; omega) _) | (with_reducible refine grown_alloc ?_ _))) hb1
    have hz1 := hw1.size
    clear hb1 hs1
    go_wp2_with fail
    with_reducible refine (HW.out _ _ _ _).mono ?_
    rintro e w2 ⟨rfl, hb2⟩
    obtain ⟨c2_0, f2_0⟩ := cf hb2 (w.heap.size + 1) 0 (.int .i64 0)
    obtain ⟨c2_1, f2_1⟩ := cf hb2 (w.heap.size + 1) 1 (.int .u64 0)
    obtain ⟨c2_2, f2_2⟩ := cf hb2 (w.heap.size + 1) 2 (.int .u64 0)
    obtain ⟨c2_3, f2_3⟩ := cf hb2 (w.heap.size + 1) 3 (.int .u64 0)
    obtain ⟨c2_4, f2_4⟩ := cf hb2 (w.heap.size + 1) 4 (.string { data := #[] })
    obtain ⟨c2_5, f2_5⟩ := cf hb2 (w.heap.size + 1) 5 (.string { data := #[] })
    obtain ⟨c2_6, f2_6⟩ := cf hb2 (w.heap.size + 1) 6 (.int .i64 0)
    obtain ⟨c2_7, f2_7⟩ := cf hb2 (w.heap.size + 1) 7 (.slice none 0 0)
    obtain ⟨c2_8, f2_8⟩ := cf hb2 (w.heap.size + 1) 8 (.slice none 0 0)
    obtain ⟨c2_9, f2_9⟩ := cf hb2 (w.heap.size + 1 + 1) 0 (.int .i64 0)
    obtain ⟨c2_10, f2_10⟩ := cf hb2 (w.heap.size + 1 + 1) 1 (.int .i64 0)
    obtain ⟨c2_11, f2_11⟩ := cf hb2 (w.heap.size + 1 + 1) 2 (.slice none 0 0)
    have hl2_0 := ltB hb2 (w.heap.size + 1)
    have hl2_1 := ltB hb2 (w.heap.size + 1 + 1)
    have hw2 := bwB hb2 w1.heap.size w1
    have hz2 := hw2.size
    clear hb2
    go_wp2_with fail
    refine bodyPost_ret (v := .tuple #[.agg #[.int .i64 3, .int .u64 0, .int .u64 0, .int .u64 0, .string { data := #[] }, .string { data := #[] }, .int .i64 0, .slice none 0 0, .slice vd m vc], .agg #[.int .i64 0, .int .i64 0, .slice none 0 0]]) (by simp (maxDischargeDepth := 4) [results, Tryz.results119, go_sem, c2_0, f2_0, c2_1, f2_1, c2_2, f2_2, c2_3, f2_3, c2_4, f2_4, c2_5, f2_5, c2_6, f2_6, c2_7, f2_7, c2_8, f2_8, c2_9, f2_9, c2_10, f2_10, c2_11, f2_11]) rfl ?_
    have hk2 := hk1.out.keeps (Keeps.beyond hw2)
    have hg2 := grown_trans hw1 (grown_below hw2 p.ownBlock)
    have hp2 := hP1.beyond hw2
    refine ⟨⟨_, rfl, (hk2.keeps ?_).mono (fun b hb _ => by omega)⟩, ?_, ?_⟩
    · repeat' (first | (with_reducible exact Keeps.refl _ _) | (with_reducible refine keeps_set ?_ (by dsimp only; omega) _))
    · repeat' (first | (with_reducible assumption) | (with_reducible exact grown_refl _ _) | (with_reducible refine grown_drew ?_) | (with_reducible refine grown_set_none ?_ (by dsimp only; omega) _) | (with_reducible refine grown_alloc ?_ _))
    · repeat' (first | (with_reducible assumption) | (with_reducible refine pa_set ?_ (fun g hg => by have := hpl _ hg; dsimp only; omega) _))
end
end Go.Proofs.YtihnfhhopldllaaGreatDoor
