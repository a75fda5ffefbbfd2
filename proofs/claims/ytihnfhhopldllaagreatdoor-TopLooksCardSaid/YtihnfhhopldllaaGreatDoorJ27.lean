/- Parts of the proof of TopLooks: U44, U45, U49, U50. No condition. -/
import Derived.Test.YtihnfhhopldllaaGreatDoorJ1
import Derived.Test.YtihnfhhopldllaaGreatDoorJ12
import Derived.Test.YtihnfhhopldllaaGreatDoorJ23
import Derived.Test.YtihnfhhopldllaaGreatDoorJ24
namespace Go.Proofs.YtihnfhhopldllaaGreatDoor
set_option linter.unusedSimpArgs false
set_option linter.unusedVariables false
set_option maxHeartbeats 6400000
set_option maxRecDepth 100000
section
open Go.RowKit
theorem value_S (T : ByteArray) (g q0 : Nat) (D wi : Int) (p q : Nat) (tx : ByteArray) (w : World) (hP : Prs w g T q0 D) :
    Calls Tryz.prog 69 #[.pointer (some ⟨g, 0, none⟩), .agg #[.int .i64 8, .int .i64 p, .int .i64 q, .string tx], .int .i64 wi] w fun e w' => e = .returned (.tuple #[.agg #[.int .i64 5, .string tx, .slice none 0 0], .agg #[.int .i64 0, .int .i64 0, .slice none 0 0]]) ∧ Below w.heap.size w w' := by
  go_enter Tryz.func69, Tryz.ntmps69
  go_wp2_with fail
  refine bodyPost_ret (v := .tuple #[.agg #[.int .i64 5, .string tx, .slice none 0 0], .agg #[.int .i64 0, .int .i64 0, .slice none 0 0]]) (by simp (maxDischargeDepth := 4) [results, Tryz.results69, go_sem]) rfl ?_
  exact ⟨rfl, bel⟩
theorem value_O (T : ByteArray) (k : Nat) (l : KL) (g F q0 : Nat) (D wi : Int) (p q : Nat) (tx : ByteArray) (hwi0 : 0 ≤ wi) (hwi1 : wi + 1 ≤ D) (hD : D ≤ 1000)
    (hK : ∀ w, Prs w g T q0 D → Calls Tryz.prog 115 #[.pointer (some ⟨g, 0, none⟩), .int .i64 2, .int .i64 (wi + 1)] w fun e w' => (∃ v, e = .returned (.tuple #[v, .agg #[.int .i64 0, .int .i64 0, .slice none 0 0]]) ∧ Kd .J (fun b => w.heap.size ≤ b) w' (k + 1) l v) ∧ Prs w' g T F D ∧ w.grownBy w' (some g))
    (w : World) (hP : Prs w g T q0 D) :
    Calls Tryz.prog 69 #[.pointer (some ⟨g, 0, none⟩), .agg #[.int .i64 2, .int .i64 p, .int .i64 q, .string tx], .int .i64 wi] w fun e w' => (∃ v, e = .returned (.tuple #[v, .agg #[.int .i64 0, .int .i64 0, .slice none 0 0]]) ∧ Is .J (fun b => w.heap.size ≤ b) w' (k + 1) (jO l) v) ∧ Prs w' g T F D ∧ w.grownBy w' (some g) := by
  have HK := Lib.hid hK
  have hg := hP.lt
  obtain ⟨a0, a1, a2, a3⟩ := hP.cells
  have hg1 : g < w.heap.size + 1 := by omega
  have hg2 : g < w.heap.size + 1 + 1 := by omega
  have hn0 : g ≠ w.heap.size := by omega
  have hn1 : g ≠ w.heap.size + 1 := by omega
  have hn2 : g ≠ w.heap.size + 1 + 1 := by omega
  have e0 : ¬ D ≤ wi := by omega
  clear hK
  go_enter Tryz.func69, Tryz.ntmps69
  go_upto_region 16 with fail
  go_cut [8, 9] (fun s8 s9 W => ∃ (ad : Option Addr) (vc fb : Nat), s8 = .slice ad l.length vc ∧ s9 = .pointer (some ⟨fb, 0, none⟩) ∧ W.cell? ⟨fb, 0, none⟩ = some (.int .i64 0) ∧ W.cell? ⟨w.heap.size, 0, none⟩ = some (.int .i64 2) ∧ (W.cell? ⟨w.heap.size + 1, 0, none⟩ = some (.int .i64 0) ∧ W.frozen? ⟨w.heap.size + 1, 0, none⟩ = false ∧ W.cell? ⟨w.heap.size + 1, 1, none⟩ = some (.string { data := #[] }) ∧ W.frozen? ⟨w.heap.size + 1, 1, none⟩ = false ∧ W.cell? ⟨w.heap.size + 1, 2, none⟩ = some (.slice none 0 0) ∧ W.frozen? ⟨w.heap.size + 1, 2, none⟩ = false ∧ W.cell? ⟨w.heap.size + 1 + 1, 0, none⟩ = some (.int .i64 0) ∧ W.frozen? ⟨w.heap.size + 1 + 1, 0, none⟩ = false ∧ W.cell? ⟨w.heap.size + 1 + 1, 1, none⟩ = some (.int .i64 0) ∧ W.frozen? ⟨w.heap.size + 1 + 1, 1, none⟩ = false ∧ W.cell? ⟨w.heap.size + 1 + 1, 2, none⟩ = some (.slice none 0 0) ∧ W.frozen? ⟨w.heap.size + 1 + 1, 2, none⟩ = false) ∧ Prs W g T F D ∧ w.grownBy W (some g) ∧ Hid (Kd .J (fun b => w.heap.size + 1 + 1 < b) W (k + 1) l (.slice ad l.length vc)) ∧ w.heap.size + 1 + 1 < W.heap.size)
  case first =>
    go_wp2_with fail
    with_reducible refine (HK.out _ ?hp1).mono ?_
    case hp1 => repeat' (first | (with_reducible assumption) | (with_reducible refine Prs.drew ?_) | (with_reducible refine Prs.other ?_ (by dsimp only; omega) _) | (with_reducible refine Prs.alloc ?_ _))
    rintro e w1 ⟨⟨v, rfl, hk⟩, hP1, hb1⟩
    obtain ⟨ad, vc, rfl⟩ := hk.slice
    replace hk := Lib.hid (hk.mono (Q' := fun b => w.heap.size + 1 + 1 < b) (fun b hb _ => by simp at hb; omega))
    obtain ⟨c1_0, f1_0⟩ := cfG hb1 w.heap.size 0 (.int .i64 2)
    obtain ⟨c1_1, f1_1⟩ := cfG hb1 w.heap.size 1 (.int .i64 p)
    obtain ⟨c1_2, f1_2⟩ := cfG hb1 w.heap.size 2 (.int .i64 q)
    obtain ⟨c1_3, f1_3⟩ := cfG hb1 w.heap.size 3 (.string tx)
    obtain ⟨c1_4, f1_4⟩ := cfG hb1 (w.heap.size + 1) 0 (.int .i64 0)
    obtain ⟨c1_5, f1_5⟩ := cfG hb1 (w.heap.size + 1) 1 (.string { data := #[] })
    obtain ⟨c1_6, f1_6⟩ := cfG hb1 (w.heap.size + 1) 2 (.slice none 0 0)
    obtain ⟨c1_7, f1_7⟩ := cfG hb1 (w.heap.size + 1 + 1) 0 (.int .i64 0)
    obtain ⟨c1_8, f1_8⟩ := cfG hb1 (w.heap.size + 1 + 1) 1 (.int .i64 0)
    obtain ⟨c1_9, f1_9⟩ := cfG hb1 (w.heap.size + 1 + 1) 2 (.slice none 0 0)
    have hs1 := hb1.size
    (try simp at hs1)
    have hl1_0 : w.heap.size < w1.heap.size := by first | omega | (simp at hs1; omega)
    have hl1_1 : w.heap.size + 1 < w1.heap.size := by first | omega | (simp at hs1; omega)
    have hl1_2 : w.heap.size + 1 + 1 < w1.heap.size := by first | omega | (simp at hs1; omega)
    have hw1 : w.grownBy w1 (some g) := grown_trans (by repeat' (first | (with_reducible assumption) | (with_reducible exact grown_refl _ _) | (with_reducible refine grown_drew ?_) | (with_reducible refine grown_set ?_ (by dsimp only; omega) _) | (with_reducible refine grown_alloc ?_ _))) hb1
    have hz1 := hw1.size
    clear hb1 hs1
    go_wp2_with fail
    go_meet
    refine ⟨_, _, _, rfl, rfl, ?_, ?_, ⟨?_, ?_, ?_, ?_, ?_, ?_, ?_, ?_, ?_, ?_, ?_, ?_⟩, ?_, ?_, Lib.hid (hk.out.keeps ?_), ?_⟩
    all_goals first | (simp [go_sem, *]; done) | skip
    · repeat' (first | (with_reducible assumption) | (with_reducible refine Prs.drew ?_) | (with_reducible refine Prs.other ?_ (by dsimp only; omega) _) | (with_reducible refine Prs.alloc ?_ _))
    · repeat' (first | (with_reducible assumption) | (with_reducible exact grown_refl _ _) | (with_reducible refine grown_drew ?_) | (with_reducible refine grown_set ?_ (by dsimp only; omega) _) | (with_reducible refine grown_alloc ?_ _))
    · repeat' (first | (with_reducible assumption) | (with_reducible exact Keeps.refl _ _) | (with_reducible refine keeps_drew ?_) | (with_reducible refine keeps_set ?_ (by dsimp only; omega) _) | (with_reducible refine keeps_alloc ?_ _))
  clear HK hP a0 a1 a2 a3
  obtain ⟨ad, vc, fb, rfl, rfl, b0, b1, ⟨c1_4, f1_4, c1_5, f1_5, c1_6, f1_6, c1_7, f1_7, c1_8, f1_8, c1_9, f1_9⟩, hP1, hw1, hk, hl1_2⟩ := hcut
  have hl1_0 : w.heap.size < wc.heap.size := by omega
  have hl1_1 : w.heap.size + 1 < wc.heap.size := by omega
  go_wp2_with fail
  refine bodyPost_ret (v := .tuple #[.agg #[.int .i64 7, .string { data := #[] }, .slice ad l.length vc], .agg #[.int .i64 0, .int .i64 0, .slice none 0 0]]) (by simp (maxDischargeDepth := 4) [results, Tryz.results69, go_sem, c1_4, f1_4, c1_5, f1_5, c1_6, f1_6, c1_7, f1_7, c1_8, f1_8, c1_9, f1_9, hl1_0, hl1_1, hl1_2]) rfl ?_
  refine ⟨⟨_, rfl, ⟨.slice none 0 0, _, rfl, True.intro, (hk.out.keeps ?_).mono (fun b hb _ => by omega)⟩⟩, ?_, ?_⟩
  · repeat' (first | (with_reducible assumption) | (with_reducible exact Keeps.refl _ _) | (with_reducible refine keeps_drew ?_) | (with_reducible refine keeps_set ?_ (by dsimp only; omega) _) | (with_reducible refine keeps_alloc ?_ _))
  · repeat' (first | (with_reducible assumption) | (with_reducible refine Prs.drew ?_) | (with_reducible refine Prs.other ?_ (by dsimp only; omega) _) | (with_reducible refine Prs.alloc ?_ _))
  · repeat' (first | (with_reducible assumption) | (with_reducible exact grown_refl _ _) | (with_reducible refine grown_drew ?_) | (with_reducible refine grown_set ?_ (by dsimp only; omega) _) | (with_reducible refine grown_alloc ?_ _))
theorem value_A (T : ByteArray) (k : Nat) (l : KL) (g F q0 : Nat) (D wi : Int) (p q : Nat) (tx : ByteArray) (hwi0 : 0 ≤ wi) (hwi1 : wi + 1 ≤ D) (hD : D ≤ 1000)
    (hK : ∀ w, Prs w g T q0 D → Calls Tryz.prog 115 #[.pointer (some ⟨g, 0, none⟩), .int .i64 4, .int .i64 (wi + 1)] w fun e w' => (∃ v, e = .returned (.tuple #[v, .agg #[.int .i64 0, .int .i64 0, .slice none 0 0]]) ∧ Kd .J (fun b => w.heap.size ≤ b) w' (k + 1) l v) ∧ Prs w' g T F D ∧ w.grownBy w' (some g))
    (w : World) (hP : Prs w g T q0 D) :
    Calls Tryz.prog 69 #[.pointer (some ⟨g, 0, none⟩), .agg #[.int .i64 4, .int .i64 p, .int .i64 q, .string tx], .int .i64 wi] w fun e w' => (∃ v, e = .returned (.tuple #[v, .agg #[.int .i64 0, .int .i64 0, .slice none 0 0]]) ∧ Is .J (fun b => w.heap.size ≤ b) w' (k + 1) (jA l) v) ∧ Prs w' g T F D ∧ w.grownBy w' (some g) := by
  have HK := Lib.hid hK
  have hg := hP.lt
  obtain ⟨a0, a1, a2, a3⟩ := hP.cells
  have hg1 : g < w.heap.size + 1 := by omega
  have hg2 : g < w.heap.size + 1 + 1 := by omega
  have hn0 : g ≠ w.heap.size := by omega
  have hn1 : g ≠ w.heap.size + 1 := by omega
  have hn2 : g ≠ w.heap.size + 1 + 1 := by omega
  have e0 : ¬ D ≤ wi := by omega
  clear hK
  go_enter Tryz.func69, Tryz.ntmps69
  go_upto_region 16 with fail
  go_cut [8, 9] (fun s8 s9 W => ∃ (ad : Option Addr) (vc fb : Nat), s8 = .slice ad l.length vc ∧ s9 = .pointer (some ⟨fb, 0, none⟩) ∧ W.cell? ⟨fb, 0, none⟩ = some (.int .i64 0) ∧ W.cell? ⟨w.heap.size, 0, none⟩ = some (.int .i64 4) ∧ (W.cell? ⟨w.heap.size + 1, 0, none⟩ = some (.int .i64 0) ∧ W.frozen? ⟨w.heap.size + 1, 0, none⟩ = false ∧ W.cell? ⟨w.heap.size + 1, 1, none⟩ = some (.string { data := #[] }) ∧ W.frozen? ⟨w.heap.size + 1, 1, none⟩ = false ∧ W.cell? ⟨w.heap.size + 1, 2, none⟩ = some (.slice none 0 0) ∧ W.frozen? ⟨w.heap.size + 1, 2, none⟩ = false ∧ W.cell? ⟨w.heap.size + 1 + 1, 0, none⟩ = some (.int .i64 0) ∧ W.frozen? ⟨w.heap.size + 1 + 1, 0, none⟩ = false ∧ W.cell? ⟨w.heap.size + 1 + 1, 1, none⟩ = some (.int .i64 0) ∧ W.frozen? ⟨w.heap.size + 1 + 1, 1, none⟩ = false ∧ W.cell? ⟨w.heap.size + 1 + 1, 2, none⟩ = some (.slice none 0 0) ∧ W.frozen? ⟨w.heap.size + 1 + 1, 2, none⟩ = false) ∧ Prs W g T F D ∧ w.grownBy W (some g) ∧ Hid (Kd .J (fun b => w.heap.size + 1 + 1 < b) W (k + 1) l (.slice ad l.length vc)) ∧ w.heap.size + 1 + 1 < W.heap.size)
  case first =>
    go_wp2_with fail
    with_reducible refine (HK.out _ ?hp1).mono ?_
    case hp1 => repeat' (first | (with_reducible assumption) | (with_reducible refine Prs.drew ?_) | (with_reducible refine Prs.other ?_ (by dsimp only; omega) _) | (with_reducible refine Prs.alloc ?_ _))
    rintro e w1 ⟨⟨v, rfl, hk⟩, hP1, hb1⟩
    obtain ⟨ad, vc, rfl⟩ := hk.slice
    replace hk := Lib.hid (hk.mono (Q' := fun b => w.heap.size + 1 + 1 < b) (fun b hb _ => by simp at hb; omega))
    obtain ⟨c1_0, f1_0⟩ := cfG hb1 w.heap.size 0 (.int .i64 4)
    obtain ⟨c1_1, f1_1⟩ := cfG hb1 w.heap.size 1 (.int .i64 p)
    obtain ⟨c1_2, f1_2⟩ := cfG hb1 w.heap.size 2 (.int .i64 q)
    obtain ⟨c1_3, f1_3⟩ := cfG hb1 w.heap.size 3 (.string tx)
    obtain ⟨c1_4, f1_4⟩ := cfG hb1 (w.heap.size + 1) 0 (.int .i64 0)
    obtain ⟨c1_5, f1_5⟩ := cfG hb1 (w.heap.size + 1) 1 (.string { data := #[] })
    obtain ⟨c1_6, f1_6⟩ := cfG hb1 (w.heap.size + 1) 2 (.slice none 0 0)
    obtain ⟨c1_7, f1_7⟩ := cfG hb1 (w.heap.size + 1 + 1) 0 (.int .i64 0)
    obtain ⟨c1_8, f1_8⟩ := cfG hb1 (w.heap.size + 1 + 1) 1 (.int .i64 0)
    obtain ⟨c1_9, f1_9⟩ := cfG hb1 (w.heap.size + 1 + 1) 2 (.slice none 0 0)
    have hs1 := hb1.size
    (try simp at hs1)
    have hl1_0 : w.heap.size < w1.heap.size := by first | omega | (simp at hs1; omega)
    have hl1_1 : w.heap.size + 1 < w1.heap.size := by first | omega | (simp at hs1; omega)
    have hl1_2 : w.heap.size + 1 + 1 < w1.heap.size := by first | omega | (simp at hs1; omega)
    have hw1 : w.grownBy w1 (some g) := grown_trans (by repeat' (first | (with_reducible assumption) | (with_reducible exact grown_refl _ _) | (with_reducible refine grown_drew ?_) | (with_reducible refine grown_set ?_ (by dsimp only; omega) _) | (with_reducible refine grown_alloc ?_ _))) hb1
    have hz1 := hw1.size
    clear hb1 hs1
    go_wp2_with fail
    go_meet
    refine ⟨_, _, _, rfl, rfl, ?_, ?_, ⟨?_, ?_, ?_, ?_, ?_, ?_, ?_, ?_, ?_, ?_, ?_, ?_⟩, ?_, ?_, Lib.hid (hk.out.keeps ?_), ?_⟩
    all_goals first | (simp [go_sem, *]; done) | skip
    · repeat' (first | (with_reducible assumption) | (with_reducible refine Prs.drew ?_) | (with_reducible refine Prs.other ?_ (by dsimp only; omega) _) | (with_reducible refine Prs.alloc ?_ _))
    · repeat' (first | (with_reducible assumption) | (with_reducible exact grown_refl _ _) | (with_reducible refine grown_drew ?_) | (with_reducible refine grown_set ?_ (by dsimp only; omega) _) | (with_reducible refine grown_alloc ?_ _))
    · repeat' (first | (with_reducible assumption) | (with_reducible exact Keeps.refl _ _) | (with_reducible refine keeps_drew ?_) | (with_reducible refine keeps_set ?_ (by dsimp only; omega) _) | (with_reducible refine keeps_alloc ?_ _))
  clear HK hP a0 a1 a2 a3
  obtain ⟨ad, vc, fb, rfl, rfl, b0, b1, ⟨c1_4, f1_4, c1_5, f1_5, c1_6, f1_6, c1_7, f1_7, c1_8, f1_8, c1_9, f1_9⟩, hP1, hw1, hk, hl1_2⟩ := hcut
  have hl1_0 : w.heap.size < wc.heap.size := by omega
  have hl1_1 : w.heap.size + 1 < wc.heap.size := by omega
  go_wp2_with fail
  refine bodyPost_ret (v := .tuple #[.agg #[.int .i64 6, .string { data := #[] }, .slice ad l.length vc], .agg #[.int .i64 0, .int .i64 0, .slice none 0 0]]) (by simp (maxDischargeDepth := 4) [results, Tryz.results69, go_sem, c1_4, f1_4, c1_5, f1_5, c1_6, f1_6, c1_7, f1_7, c1_8, f1_8, c1_9, f1_9, hl1_0, hl1_1, hl1_2]) rfl ?_
  refine ⟨⟨_, rfl, ⟨.slice none 0 0, _, rfl, True.intro, (hk.out.keeps ?_).mono (fun b hb _ => by omega)⟩⟩, ?_, ?_⟩
  · repeat' (first | (with_reducible assumption) | (with_reducible exact Keeps.refl _ _) | (with_reducible refine keeps_drew ?_) | (with_reducible refine keeps_set ?_ (by dsimp only; omega) _) | (with_reducible refine keeps_alloc ?_ _))
  · repeat' (first | (with_reducible assumption) | (with_reducible refine Prs.drew ?_) | (with_reducible refine Prs.other ?_ (by dsimp only; omega) _) | (with_reducible refine Prs.alloc ?_ _))
  · repeat' (first | (with_reducible assumption) | (with_reducible exact grown_refl _ _) | (with_reducible refine grown_drew ?_) | (with_reducible refine grown_set ?_ (by dsimp only; omega) _) | (with_reducible refine grown_alloc ?_ _))
theorem pval_any (T : ByteArray) (hT : T.size ≤ 1000000) : ∀ (k : Nat) (j : Ro), Jq k j → PVal T k j := by
  have str : ∀ (k : Nat) (x : List UInt8), PVal T k (jS x) := fun k x p Z h g D wi w hP h0 h1 hD => by
    have e : tokE (jS x) p = p + (prJ k (jS x)).length := by rw [prJ_jS]; rfl
    refine (value_S T g _ D wi p (tokE (jS x) p) (bs x) w hP).mono ?_
    rintro e' w' ⟨rfl, hb⟩
    refine ⟨⟨_, rfl, ⟨.slice none 0 0, .slice none 0 0, rfl, True.intro, Kd.nil _ _ _ _ _ _⟩⟩, ?_, grown_below hb _⟩
    have := hP.beyond hb
    rw [e] at this
    exact this
  intro k
  induction k with
  | zero =>
    rintro j ⟨x, _, _, rfl⟩
    exact str 0 x
  | succ k ih =>
    rintro j (⟨x, _, _, rfl⟩ | ⟨l, hl, ⟨rfl, hq⟩ | ⟨rfl, hq⟩⟩)
    · exact str _ x
    · intro p Z h g D wi w hP h0 h1 hD
      exact value_O T k l g _ (p + 1) D wi p (p + 1) (bs []) h0 (by omega) hD (fun w hP => kids_O T hT k l hl hq (fun x hx => ih x.2 (hq x hx).2.2) p Z h g D (wi + 1) (by omega) (by omega) hD w hP) w hP
    · intro p Z h g D wi w hP h0 h1 hD
      exact value_A T k l g _ (p + 1) D wi p (p + 1) (bs []) h0 (by omega) hD (fun w hP => kids_A T hT k l hl hq (fun x hx => ih x.2 (hq x hx).2) p Z h g D (wi + 1) (by omega) (by omega) hD w hP) w hP
end
section
open Go.RowKit
theorem prs_new (w : World) (n : Nat) (T : ByteArray) (p : Nat) (D : Int) (h : n = w.heap.size) : Prs (w.alloc (.cells #[.string T, .int .i64 p, .int .i64 D] 124)) n T p D := by
  subst h
  exact heap_alloc_last w _
theorem parse_any (T : ByteArray) (hT : T.size ≤ 1000000) (k : Nat) (j : Ro) (hj : Jq k j) (h : T.data.toList = prJ k j) (D : Int) (hD0 : (k : Int) ≤ D) (hD : D ≤ 1000) (w : World) :
    Calls Tryz.prog 39 #[.string T, .int .i64 D] w fun e w' => (∃ v, e = .returned (.tuple #[v, .agg #[.int .i64 0, .int .i64 0, .slice none 0 0]]) ∧ Is .J (fun b => w.heap.size ≤ b) w' k j v) ∧ Below w.heap.size w w' := by
  have hA : At T 0 (prJ k j ++ []) := by rw [List.append_nil, ← h]; exact At.zero T
  have hN := nx_first hT hj hA
  have hV := fun (u : World) (hP : Prs u (w.heap.size + 1 + 1) T (tokE j 0) D) => pval_any T hT k j hj 0 [] hA (w.heap.size + 1 + 1) D 0 u hP (Int.le_refl 0) (by omega) hD
  obtain ⟨F, hF⟩ : ∃ F, 0 + (prJ k j).length = F := ⟨_, rfl⟩
  have hAF : At T F [] := by rw [← hF]; exact hA.more
  have hNE : Nx T F 1 F { data := #[] } := fun w => next_end T hT F hAF w
  obtain ⟨kd, hkd⟩ : ∃ x, tokK j = x := ⟨_, rfl⟩
  obtain ⟨q, hq⟩ : ∃ x, tokE j 0 = x := ⟨_, rfl⟩
  obtain ⟨tx, htx⟩ : ∃ x, bs j.o.text = x := ⟨_, rfl⟩
  rw [hkd, hq, htx] at hN hV
  rw [hF] at hV
  have H1 := Lib.hid (fun (u : World) hP => pnext_any hN (w.heap.size + 1 + 1) D u hP)
  have H2 := Lib.hid hV
  replace H2 : Hid (∀ u, Prs u (w.heap.size + 1 + 1) T q D → Calls Tryz.prog 69 #[.pointer (some ⟨(w.heap.size + 1 + 1), 0, none⟩), .agg #[.int .i64 kd, .int .i64 0, .int .i64 q, .string tx], .int .i64 0] u fun e w' => (∃ v, e = .returned (.tuple #[v, .agg #[.int .i64 0, .int .i64 0, .slice none 0 0]]) ∧ Is .J (fun b => u.heap.size ≤ b) w' k j v) ∧ Prs w' (w.heap.size + 1 + 1) T F D ∧ u.grownBy w' (some (w.heap.size + 1 + 1))) := H2
  have H3 := Lib.hid (fun (u : World) hP => pnext_any hNE (w.heap.size + 1 + 1) D u hP)
  obtain ⟨V1, hV1⟩ : ∃ x, j.o.kind = x := ⟨_, rfl⟩
  obtain ⟨V2, hV2⟩ : ∃ x, bs j.o.text = x := ⟨_, rfl⟩
  obtain ⟨V3, hV3⟩ : ∃ x, j.kids.length = x := ⟨_, rfl⟩
  have HV1 := Lib.hid hV1
  have HV2 := Lib.hid hV2
  have HV3 := Lib.hid hV3
  have hD00 : 0 ≤ D := by omega
  clear hV1 hV2 hV3 hV hN hNE hA hAF hF hkd hq htx hj h
  go_enter Tryz.func39, Tryz.ntmps39
  go_wp2_with fail
  with_reducible refine (H1.out _ ?hp1).mono ?_
  case hp1 => exact prs_new _ _ _ _ _ (by simp)
  rintro e w1 ⟨rfl, hP1, hb1⟩
  have hg1 : w.heap.size + 1 + 1 < w1.heap.size := by have := hb1.size; simp at this; omega
  obtain ⟨c1_0, f1_0⟩ := cfG hb1 w.heap.size 0 (.int .i64 0)
  obtain ⟨c1_1, f1_1⟩ := cfG hb1 w.heap.size 1 (.string { data := #[] })
  obtain ⟨c1_2, f1_2⟩ := cfG hb1 w.heap.size 2 (.slice none 0 0)
  obtain ⟨c1_3, f1_3⟩ := cfG hb1 (w.heap.size + 1) 0 (.int .i64 0)
  obtain ⟨c1_4, f1_4⟩ := cfG hb1 (w.heap.size + 1) 1 (.int .i64 0)
  obtain ⟨c1_5, f1_5⟩ := cfG hb1 (w.heap.size + 1) 2 (.slice none 0 0)
  have hs1 := hb1.size
  (try simp at hs1)
  have hl1_0 : w.heap.size < w1.heap.size := by first | omega | (simp at hs1; omega)
  have hl1_1 : w.heap.size + 1 < w1.heap.size := by first | omega | (simp at hs1; omega)
  have hw1 : w.grownBy w1 (some (w.heap.size + 1 + 1)) := grown_trans (by repeat' (first | (with_reducible assumption) | (with_reducible exact grown_refl _ _) | (with_reducible refine grown_drew ?_) | (with_reducible refine grown_set ?_ (by dsimp only; omega) _) | (with_reducible refine grown_alloc ?_ _))) hb1
  have hz1 := hw1.size
  clear hb1 hs1
  go_upto_region 7 with fail
  go_cut [9] (fun s9 W => ∃ (jad : Option Addr) (jc jb : Nat), s9 = .pointer (some ⟨jb, 0, none⟩) ∧ w1.heap.size + 1 < jb ∧ jb < W.heap.size ∧ (W.cell? ⟨jb, 0, none⟩ = some (.int .i64 V1) ∧ W.cell? ⟨jb, 1, none⟩ = some (.string V2) ∧ W.cell? ⟨jb, 2, none⟩ = some (.slice jad V3 jc)) ∧ (W.cell? ⟨w.heap.size, 0, none⟩ = some (.int .i64 0) ∧ W.frozen? ⟨w.heap.size, 0, none⟩ = false ∧ W.cell? ⟨w.heap.size, 1, none⟩ = some (.string { data := #[] }) ∧ W.frozen? ⟨w.heap.size, 1, none⟩ = false ∧ W.cell? ⟨w.heap.size, 2, none⟩ = some (.slice none 0 0) ∧ W.frozen? ⟨w.heap.size, 2, none⟩ = false ∧ W.cell? ⟨w.heap.size + 1, 0, none⟩ = some (.int .i64 0) ∧ W.frozen? ⟨w.heap.size + 1, 0, none⟩ = false ∧ W.cell? ⟨w.heap.size + 1, 1, none⟩ = some (.int .i64 0) ∧ W.frozen? ⟨w.heap.size + 1, 1, none⟩ = false ∧ W.cell? ⟨w.heap.size + 1, 2, none⟩ = some (.slice none 0 0) ∧ W.frozen? ⟨w.heap.size + 1, 2, none⟩ = false ∧ W.cell? ⟨w1.heap.size, 0, none⟩ = some (.int .i64 kd) ∧ W.frozen? ⟨w1.heap.size, 0, none⟩ = false ∧ W.cell? ⟨w1.heap.size, 1, none⟩ = some (.int .i64 0) ∧ W.frozen? ⟨w1.heap.size, 1, none⟩ = false ∧ W.cell? ⟨w1.heap.size, 2, none⟩ = some (.int .i64 q) ∧ W.frozen? ⟨w1.heap.size, 2, none⟩ = false ∧ W.cell? ⟨w1.heap.size, 3, none⟩ = some (.string tx) ∧ W.frozen? ⟨w1.heap.size, 3, none⟩ = false ∧ W.cell? ⟨w1.heap.size + 1, 0, none⟩ = some (.int .i64 0) ∧ W.frozen? ⟨w1.heap.size + 1, 0, none⟩ = false ∧ W.cell? ⟨w1.heap.size + 1, 1, none⟩ = some (.int .i64 0) ∧ W.frozen? ⟨w1.heap.size + 1, 1, none⟩ = false ∧ W.cell? ⟨w1.heap.size + 1, 2, none⟩ = some (.slice none 0 0) ∧ W.frozen? ⟨w1.heap.size + 1, 2, none⟩ = false) ∧ Prs W (w.heap.size + 1 + 1) T F D ∧ w.grownBy W (some (w.heap.size + 1 + 1)) ∧ Hid (Is .J (fun b => w1.heap.size + 1 < b ∧ b ≠ jb) W k j (.agg #[.int .i64 V1, .string V2, .slice jad V3 jc])))
  case first =>
    go_wp2_with fail
    with_reducible refine (H2.out _ ?hp2).mono ?_
    case hp2 => repeat' (first | (with_reducible assumption) | (with_reducible refine Prs.drew ?_) | (with_reducible refine Prs.other ?_ (by dsimp only; omega) _) | (with_reducible refine Prs.alloc ?_ _))
    rintro e w2 ⟨⟨jv, rfl, hj⟩, hP2, hb2⟩
    replace hj := hj.mono (Q' := fun b => w1.heap.size + 1 < b) (fun b hb _ => by simp at hb; omega)
    obtain ⟨jad, jc, rfl⟩ := isJ_form hj
    simp only [HV1.out, HV2.out, HV3.out] at hj ⊢
    replace hj := Lib.hid hj
    obtain ⟨c2_0, f2_0⟩ := cfG hb2 w.heap.size 0 (.int .i64 0)
    obtain ⟨c2_1, f2_1⟩ := cfG hb2 w.heap.size 1 (.string { data := #[] })
    obtain ⟨c2_2, f2_2⟩ := cfG hb2 w.heap.size 2 (.slice none 0 0)
    obtain ⟨c2_3, f2_3⟩ := cfG hb2 (w.heap.size + 1) 0 (.int .i64 0)
    obtain ⟨c2_4, f2_4⟩ := cfG hb2 (w.heap.size + 1) 1 (.int .i64 0)
    obtain ⟨c2_5, f2_5⟩ := cfG hb2 (w.heap.size + 1) 2 (.slice none 0 0)
    obtain ⟨c2_6, f2_6⟩ := cfG hb2 w1.heap.size 0 (.int .i64 kd)
    obtain ⟨c2_7, f2_7⟩ := cfG hb2 w1.heap.size 1 (.int .i64 0)
    obtain ⟨c2_8, f2_8⟩ := cfG hb2 w1.heap.size 2 (.int .i64 q)
    obtain ⟨c2_9, f2_9⟩ := cfG hb2 w1.heap.size 3 (.string tx)
    obtain ⟨c2_10, f2_10⟩ := cfG hb2 (w1.heap.size + 1) 0 (.int .i64 0)
    obtain ⟨c2_11, f2_11⟩ := cfG hb2 (w1.heap.size + 1) 1 (.int .i64 0)
    obtain ⟨c2_12, f2_12⟩ := cfG hb2 (w1.heap.size + 1) 2 (.slice none 0 0)
    have hs2 := hb2.size
    (try simp at hs2)
    have hl2_0 : w.heap.size < w2.heap.size := by first | omega | (simp at hs2; omega)
    have hl2_1 : w.heap.size + 1 < w2.heap.size := by first | omega | (simp at hs2; omega)
    have hl2_2 : w1.heap.size < w2.heap.size := by first | omega | (simp at hs2; omega)
    have hl2_3 : w1.heap.size + 1 < w2.heap.size := by first | omega | (simp at hs2; omega)
    have hw2 : w.grownBy w2 (some (w.heap.size + 1 + 1)) := grown_trans (by repeat' (first | (with_reducible assumption) | (with_reducible exact grown_refl _ _) | (with_reducible refine grown_drew ?_) | (with_reducible refine grown_set ?_ (by dsimp only; omega) _) | (with_reducible refine grown_alloc ?_ _))) hb2
    have hz2 := hw2.size
    clear hb2 hs2
    go_wp2_with fail
    go_meet
    refine ⟨jad, jc, w2.heap.size, rfl, ?_, ?_, ⟨?_, ?_, ?_⟩, ⟨?_, ?_, ?_, ?_, ?_, ?_, ?_, ?_, ?_, ?_, ?_, ?_, ?_, ?_, ?_, ?_, ?_, ?_, ?_, ?_, ?_, ?_, ?_, ?_, ?_, ?_⟩, ?_, ?_, Lib.hid ((hj.out.mono (fun b hb hl => ⟨hb, by omega⟩)).keeps ?_)⟩
    all_goals first | omega | (simp [go_sem, *]; done) | skip
    · repeat' (first | (with_reducible assumption) | (with_reducible refine Prs.drew ?_) | (with_reducible refine Prs.other ?_ (by dsimp only; omega) _) | (with_reducible refine Prs.alloc ?_ _))
    · repeat' (first | (with_reducible assumption) | (with_reducible exact grown_refl _ _) | (with_reducible refine grown_drew ?_) | (with_reducible refine grown_set ?_ (by dsimp only; omega) _) | (with_reducible refine grown_alloc ?_ _))
    · repeat' (first | (with_reducible assumption) | (with_reducible exact Keeps.refl _ _) | (with_reducible refine keeps_drew ?_) | (with_reducible refine keeps_set ?_ (by dsimp only; omega) _) | (with_reducible refine keeps_alloc ?_ _))
  case rest =>
    clear H1 H2
    obtain ⟨jad, jc, jb, rfl, hjl, hjl2, ⟨j0, j1, j2⟩, ⟨r0, rf0, r1, rf1, r2, rf2, r3, rf3, r4, rf4, r5, rf5, r6, rf6, r7, rf7, r8, rf8, r9, rf9, r10, rf10, r11, rf11, r12, rf12⟩, hP2, hw2, hj⟩ := hcut
    have hz2 := hw2.size
    have hl0 : w.heap.size < wc.heap.size := by omega
    have hl1 : w.heap.size + 1 < wc.heap.size := by omega
    have hl2 : w1.heap.size < wc.heap.size := by omega
    have hl3 : w1.heap.size + 1 < wc.heap.size := by omega
    go_upto_region 10 with fail
    go_cut [] (fun W => (W.cell? ⟨jb, 0, none⟩ = some (.int .i64 V1) ∧ W.cell? ⟨jb, 1, none⟩ = some (.string V2) ∧ W.cell? ⟨jb, 2, none⟩ = some (.slice jad V3 jc)) ∧ (W.cell? ⟨w.heap.size, 0, none⟩ = some (.int .i64 0) ∧ W.frozen? ⟨w.heap.size, 0, none⟩ = false ∧ W.cell? ⟨w.heap.size, 1, none⟩ = some (.string { data := #[] }) ∧ W.frozen? ⟨w.heap.size, 1, none⟩ = false ∧ W.cell? ⟨w.heap.size, 2, none⟩ = some (.slice none 0 0) ∧ W.frozen? ⟨w.heap.size, 2, none⟩ = false ∧ W.cell? ⟨w.heap.size + 1, 0, none⟩ = some (.int .i64 0) ∧ W.frozen? ⟨w.heap.size + 1, 0, none⟩ = false ∧ W.cell? ⟨w.heap.size + 1, 1, none⟩ = some (.int .i64 0) ∧ W.frozen? ⟨w.heap.size + 1, 1, none⟩ = false ∧ W.cell? ⟨w.heap.size + 1, 2, none⟩ = some (.slice none 0 0) ∧ W.frozen? ⟨w.heap.size + 1, 2, none⟩ = false ∧ W.cell? ⟨w1.heap.size, 0, none⟩ = some (.int .i64 1) ∧ W.frozen? ⟨w1.heap.size, 0, none⟩ = false ∧ W.cell? ⟨w1.heap.size, 1, none⟩ = some (.int .i64 F) ∧ W.frozen? ⟨w1.heap.size, 1, none⟩ = false ∧ W.cell? ⟨w1.heap.size, 2, none⟩ = some (.int .i64 F) ∧ W.frozen? ⟨w1.heap.size, 2, none⟩ = false ∧ W.cell? ⟨w1.heap.size, 3, none⟩ = some (.string { data := #[] }) ∧ W.frozen? ⟨w1.heap.size, 3, none⟩ = false ∧ W.cell? ⟨w1.heap.size + 1, 0, none⟩ = some (.int .i64 0) ∧ W.frozen? ⟨w1.heap.size + 1, 0, none⟩ = false ∧ W.cell? ⟨w1.heap.size + 1, 1, none⟩ = some (.int .i64 0) ∧ W.frozen? ⟨w1.heap.size + 1, 1, none⟩ = false ∧ W.cell? ⟨w1.heap.size + 1, 2, none⟩ = some (.slice none 0 0) ∧ W.frozen? ⟨w1.heap.size + 1, 2, none⟩ = false) ∧ Prs W (w.heap.size + 1 + 1) T F D ∧ w.grownBy W (some (w.heap.size + 1 + 1)) ∧ Hid (Is .J (fun b => w1.heap.size + 1 < b ∧ b ≠ jb) W k j (.agg #[.int .i64 V1, .string V2, .slice jad V3 jc])))
    case first =>
      go_wp2_with fail
      with_reducible refine (H3.out _ ?hp3).mono ?_
      case hp3 => repeat' (first | (with_reducible assumption) | (with_reducible refine Prs.drew ?_) | (with_reducible refine Prs.other ?_ (by dsimp only; omega) _) | (with_reducible refine Prs.alloc ?_ _))
      rintro e w3 ⟨rfl, hP3, hb3⟩
      have hjb := (grown_cell hb3 (b := jb) (i := 0) (by assumption) (by omega)).trans j0
      have hjb1 := (grown_cell hb3 (b := jb) (i := 1) (by assumption) (by omega)).trans j1
      have hjb2 := (grown_cell hb3 (b := jb) (i := 2) (by assumption) (by omega)).trans j2
      have hj3 := Lib.hid (hj.out.keeps (keeps_row (Keeps.refl _ _) hb3 (by show ¬ (_ < _ ∧ _); omega)))
      obtain ⟨c3_0, f3_0⟩ := cfG hb3 w.heap.size 0 (.int .i64 0)
      obtain ⟨c3_1, f3_1⟩ := cfG hb3 w.heap.size 1 (.string { data := #[] })
      obtain ⟨c3_2, f3_2⟩ := cfG hb3 w.heap.size 2 (.slice none 0 0)
      obtain ⟨c3_3, f3_3⟩ := cfG hb3 (w.heap.size + 1) 0 (.int .i64 0)
      obtain ⟨c3_4, f3_4⟩ := cfG hb3 (w.heap.size + 1) 1 (.int .i64 0)
      obtain ⟨c3_5, f3_5⟩ := cfG hb3 (w.heap.size + 1) 2 (.slice none 0 0)
      obtain ⟨c3_6, f3_6⟩ := cfG hb3 w1.heap.size 0 (.int .i64 kd)
      obtain ⟨c3_7, f3_7⟩ := cfG hb3 w1.heap.size 1 (.int .i64 0)
      obtain ⟨c3_8, f3_8⟩ := cfG hb3 w1.heap.size 2 (.int .i64 q)
      obtain ⟨c3_9, f3_9⟩ := cfG hb3 w1.heap.size 3 (.string tx)
      obtain ⟨c3_10, f3_10⟩ := cfG hb3 (w1.heap.size + 1) 0 (.int .i64 0)
      obtain ⟨c3_11, f3_11⟩ := cfG hb3 (w1.heap.size + 1) 1 (.int .i64 0)
      obtain ⟨c3_12, f3_12⟩ := cfG hb3 (w1.heap.size + 1) 2 (.slice none 0 0)
      have hs3 := hb3.size
      (try simp at hs3)
      have hl3_0 : w.heap.size < w3.heap.size := by first | omega | (simp at hs3; omega)
      have hl3_1 : w.heap.size + 1 < w3.heap.size := by first | omega | (simp at hs3; omega)
      have hl3_2 : w1.heap.size < w3.heap.size := by first | omega | (simp at hs3; omega)
      have hl3_3 : w1.heap.size + 1 < w3.heap.size := by first | omega | (simp at hs3; omega)
      have hw3 : w.grownBy w3 (some (w.heap.size + 1 + 1)) := grown_trans (by repeat' (first | (with_reducible assumption) | (with_reducible exact grown_refl _ _) | (with_reducible refine grown_drew ?_) | (with_reducible refine grown_set ?_ (by dsimp only; omega) _) | (with_reducible refine grown_alloc ?_ _))) hb3
      have hz3 := hw3.size
      clear hb3 hs3
      go_wp2_with fail
      go_meet
      refine ⟨⟨?_, ?_, ?_⟩, ⟨?_, ?_, ?_, ?_, ?_, ?_, ?_, ?_, ?_, ?_, ?_, ?_, ?_, ?_, ?_, ?_, ?_, ?_, ?_, ?_, ?_, ?_, ?_, ?_, ?_, ?_⟩, ?_, ?_, Lib.hid (hj3.out.keeps ?_)⟩
      all_goals first | (simp [go_sem, *]; done) | skip
      · repeat' (first | (with_reducible assumption) | (with_reducible refine Prs.drew ?_) | (with_reducible refine Prs.other ?_ (by dsimp only; omega) _) | (with_reducible refine Prs.alloc ?_ _))
      · repeat' (first | (with_reducible assumption) | (with_reducible exact grown_refl _ _) | (with_reducible refine grown_drew ?_) | (with_reducible refine grown_set ?_ (by dsimp only; omega) _) | (with_reducible refine grown_alloc ?_ _))
      · repeat' (first | (with_reducible assumption) | (with_reducible exact Keeps.refl _ _) | (with_reducible refine keeps_drew ?_) | (with_reducible refine keeps_set ?_ (by dsimp only; omega) _) | (with_reducible refine keeps_alloc ?_ _))
    case rest =>
      clear H3 r0 rf0 r1 rf1 r2 rf2 r3 rf3 r4 rf4 r5 rf5 r6 rf6 r7 rf7 r8 rf8 r9 rf9 r10 rf10 r11 rf11 r12 rf12 hP2 hw2 hj j0 j1 j2
      obtain ⟨⟨j0, j1, j2⟩, ⟨r0, rf0, r1, rf1, r2, rf2, r3, rf3, r4, rf4, r5, rf5, r6, rf6, r7, rf7, r8, rf8, r9, rf9, r10, rf10, r11, rf11, r12, rf12⟩, hP3, hw3, hj⟩ := hcut
      have hz3 := hw3.size
      go_wp2_with fail
      refine bodyPost_ret (v := .tuple #[.agg #[.int .i64 V1, .string V2, .slice jad V3 jc], .agg #[.int .i64 0, .int .i64 0, .slice none 0 0]]) (by simp (maxDischargeDepth := 4) [results, Tryz.results39, go_sem, r0, rf0, r1, rf1, r2, rf2, r3, rf3, r4, rf4, r5, rf5, r6, rf6, r7, rf7, r8, rf8, r9, rf9, r10, rf10, r11, rf11, r12, rf12]) rfl ?_
      refine ⟨⟨_, rfl, (hj.out.keeps ?_).mono (fun b hb _ => by omega)⟩, below_row (B := w.heap.size) (row := some (w.heap.size + 1 + 1)) ?_ (Nat.le_refl _) (fun k hk => by injection hk with hk; omega)⟩
      · repeat' (first | (with_reducible assumption) | (with_reducible exact Keeps.refl _ _) | (with_reducible refine keeps_drew ?_) | (with_reducible refine keeps_set ?_ (by dsimp only; omega) _) | (with_reducible refine keeps_alloc ?_ _))
      · repeat' (first | (with_reducible assumption) | (with_reducible exact grown_refl _ _) | (with_reducible refine grown_drew ?_) | (with_reducible refine grown_set ?_ (by dsimp only; omega) _) | (with_reducible refine grown_alloc ?_ _))
end
section
open Go.RowKit
theorem hi_field : ∃ i0, Tryz.prog.info? 51 = some i0 ∧ i0.zero = some (.agg #[.string { data := #[] }, .int .i64 0, .int .u64 0, .int .u64 0, .int .u64 0, .string { data := #[] }, .string { data := #[] }, .int .i64 0, .slice none 0 0, .slice none 0 0]) ∧ i0.size = 10 ∧ i0.bytes = 136 := by
  have h : (Tryz.prog.info? 51).map (fun i => (i.zero, i.size, i.bytes)) = some (some (.agg #[.string { data := #[] }, .int .i64 0, .int .u64 0, .int .u64 0, .int .u64 0, .string { data := #[] }, .string { data := #[] }, .int .i64 0, .slice none 0 0, .slice none 0 0]), 10, 136) := by kernel_rfl
  obtain ⟨i0, h0, h1⟩ := Option.map_eq_some_iff.1 h
  injection h1 with h1 h2
  injection h2 with h2 h3
  exact ⟨i0, h0, h1, h2, h3⟩
def EVal (d k : Nat) (j t : Ro) : Prop := ∀ (Q : Nat → Prop) (w : World) (v p : Value) (n B : Nat), Is .J Q w d j v → Pa w B 3 p n → n + k ≤ 900 → B ≤ w.heap.size → (∀ b, Q b → b < w.heap.size → p.ownBlock ≠ some b) →
  Calls Tryz.prog 119 #[v, p] w fun e w' => (∃ x, e = .returned (.tuple #[x, .agg #[.int .i64 0, .int .i64 0, .slice none 0 0]]) ∧ Is .V (fun b => w.heap.size ≤ b) w' k t x) ∧ w.grownBy w' p.ownBlock ∧ Pa w' B 3 p n
def EKids (d k : Nat) (lj lv : KL) : Prop := lj.length = lv.length ∧ ∀ (i : Nat) (nm : List UInt8) (x : Ro), lj[i]? = some (nm, x) → ((0 : UInt8) ∉ nm) ∧ ∃ t, lv[i]? = some (nm, t) ∧ EVal d k x t
end
section
open Go.RowKit
theorem last3v (w : World) (a b c : Obj) : (((w.alloc a).alloc b).alloc c).heap[w.heap.size + 1 + 1]? = some c := by
  have h := heap_alloc_last ((w.alloc a).alloc b) c
  have e : ((w.alloc a).alloc b).heap.size = w.heap.size + 1 + 1 := by simp
  rw [e] at h
  exact h
theorem mem10_one {s t u : ByteArray} {a b c d e : Int} {p q : Option Addr} {n m i j : Nat} : ∀ x ∈ [Value.string s, .int .i64 a, .int .u64 b, .int .u64 c, .int .u64 d, .string t, .string u, .int .i64 e, .slice p n i, .slice q m j], x.oneCell' = true := fun x hx => by
  simp only [List.mem_cons, List.not_mem_nil, or_false] at hx
  rcases hx with rfl | rfl | rfl | rfl | rfl | rfl | rfl | rfl | rfl | rfl
  all_goals rfl
theorem grown_below2 {w W w8 : World} {row : Option Nat} {B : Nat} (h : w.grownBy W row) (hb : Below B W w8) (hB : w.heap.size ≤ B) : w.grownBy w8 row :=
  ⟨hb.os.trans h.os, hb.tape.trans h.tape, hb.output.trans h.output, Nat.le_trans h.size hb.size, fun k hk hr => (hb.block k (by omega)).trans (h.block k hk hr)⟩
theorem row_cell {W w6 : World} {row : Option Nat} (h : W.grownBy w6 row) {b i : Nat} (hb : b < W.heap.size) (hn : row ≠ some b) : w6.cell? ⟨b, i, none⟩ = W.cell? ⟨b, i, none⟩ := World.cell?_of_block (a := ⟨b, i, none⟩) (h.block b hb (fun e => hn e.symm))
theorem row_frozen {W w6 : World} {row : Option Nat} (h : W.grownBy w6 row) {b i : Nat} (hb : b < W.heap.size) (hn : row ≠ some b) : w6.frozen? ⟨b, i, none⟩ = W.frozen? ⟨b, i, none⟩ := World.frozen?_of_block (a := ⟨b, i, none⟩) (h.block b hb (fun e => hn e.symm))
theorem eplain_any (d k : Nat) (lj lv : KL) (hE : EKids d k lj lv) (hl : lv.length ≤ 20) (Q : Nat → Prop) (ad : Option Addr) (m c : Nat) (hm : lj.length = m) (p : Value) (n B : Nat) (hn : n + (k + 1) ≤ 900) (w : World) (hk : Kd .J Q w (d + 1) lj (.slice ad m c)) (hp : Pa w B 3 p n) (hB : B ≤ w.heap.size) (hQ : ∀ b, Q b → b < w.heap.size → p.ownBlock ≠ some b) :
    Calls Tryz.prog 70 #[.slice ad m c, p] w fun e w' => (∃ V, e = .returned (.tuple #[V, .agg #[.int .i64 0, .int .i64 0, .slice none 0 0]]) ∧ Bd .V 51 w' w.heap.size k lv V) ∧ w.grownBy w' p.ownBlock ∧ Pa w' B 3 p n := by
  have HK := Lib.hid hk
  have HE := Lib.hid hE
  have HQ := Lib.hid hQ
  have HM := Lib.hid hm
  have HLV : Hid (lv.length = m) := Lib.hid (by rw [← hE.1]; exact hm)
  have hm20 : m ≤ 20 := by have := HLV.out; omega
  have HP := Lib.hid hp
  have hpl := hp.lt
  obtain ⟨BB, hBB⟩ : ∃ b, b = w.heap.size + 1 := ⟨_, rfl⟩
  have HBB := Lib.hid hBB
  have hBB1 : w.heap.size < BB := by omega
  clear hk hE hl hm hBB hQ hp
  go_enter Tryz.func70, Tryz.ntmps70
  go_wp2_with fail
  go_loopw [6, 14] (fun v x wr => ∃ (K : Nat) (V : Value), K ≤ m ∧ V = v ∧ x = .int .i64 K ∧ (wr.cell? ⟨w.heap.size, 0, none⟩ = some (.int .i64 0) ∧ wr.frozen? ⟨w.heap.size, 0, none⟩ = false ∧ wr.cell? ⟨w.heap.size, 1, none⟩ = some (.int .i64 0) ∧ wr.frozen? ⟨w.heap.size, 1, none⟩ = false ∧ wr.cell? ⟨w.heap.size, 2, none⟩ = some (.slice none 0 0) ∧ wr.frozen? ⟨w.heap.size, 2, none⟩ = false) ∧ Hid (w.grownBy wr p.ownBlock) ∧ Hid (Pa wr B 3 p n) ∧ Hid (Bd .V 51 wr BB k (lv.take K) V) ∧ BB ≤ wr.heap.size) (fun _ x _ => m - (intOf x).toNat)
  case atStart =>
    refine ⟨0, _, Nat.zero_le _, rfl, rfl, ⟨?_, ?_, ?_, ?_, ?_, ?_⟩, Lib.hid ?_, Lib.hid ?_, Lib.hid (Bd.nil _ _ _ _ _), ?_⟩
    all_goals first | (simp [go_sem]; done) | skip
    · exact grown_below bel _
    · exact HP.out.beyond bel
    · (have := HBB.out; simp; omega)
  case round =>
    obtain ⟨K, V, hK, rfl, rfl, ⟨k0, kf0, k1, kf1, k2, kf2⟩, HG, HPr, HD, hBr⟩ := hrel
    have hL0 : w.heap.size < wr.heap.size := by omega
    have hL1 : w.heap.size ≠ wr.heap.size := by omega
    by_cases hKm : K < m
    · obtain ⟨⟨kn, kx⟩, hkx⟩ : ∃ x, lj[K]? = some x := ⟨_, List.getElem?_eq_getElem (by have := HM.out; omega)⟩
      obtain ⟨hz0, t, hlv, hev⟩ := HE.out.2 K kn kx hkx
      obtain ⟨b, o, bv, s, rfl, hqb, hbl, hra, hby, hkd⟩ := HK.out.at hkx
      have hnb := HQ.out b hqb hbl
      have hblk : wr.heap[b]? = w.heap[b]? := HG.out.block b hbl (fun e => hnb e.symm)
      obtain ⟨sd, sc, rfl⟩ := hkd.slice
      obtain ⟨r0, r1, r2, r3⟩ := rowJ (rangeAt_block hblk hra)
      have hgn := HG.out
      have KQ : Hid (∀ w6 : World, wr.grownBy w6 p.ownBlock → Is .J (fun b => Q b ∧ b < w.heap.size) w6 d kx (.agg #[.int .i64 kx.o.kind, .string (bs kx.o.text), .slice sd kx.kids.length sc])) := Lib.hid (fun w6 h6 => by
        have h1 : Is .J Q w d kx (.agg #[.int .i64 kx.o.kind, .string (bs kx.o.text), .slice sd kx.kids.length sc]) := ⟨.slice none 0 0, _, rfl, True.intro, hkd⟩
        exact (h1.mono (fun b hb hl => ⟨hb, hl⟩)).keeps (keeps_grown (grown_trans hgn h6) (fun b hb _ => HQ.out b hb.1 hb.2)))
      have HEV := Lib.hid (fun Q w v p n B h1 h2 h3 h4 h5 => hev Q w v p n B h1 h2 h3 h4 h5)
      have hz0' : Lib.hasPrefix [] [] = true := rfl
      have CN := fun w => contains_any (bs kn) w
      rw [bs_list, decide_eq_false hz0] at CN
      obtain ⟨V0, hV0⟩ : ∃ x, bs kn = x := ⟨_, rfl⟩
      obtain ⟨V1, hV1⟩ : ∃ x, kx.o.kind = x := ⟨_, rfl⟩
      obtain ⟨V2, hV2⟩ : ∃ x, bs kx.o.text = x := ⟨_, rfl⟩
      obtain ⟨V3, hV3⟩ : ∃ x, kx.kids.length = x := ⟨_, rfl⟩
      rw [hV0] at r0 CN
      rw [hV1] at r1 KQ
      rw [hV2] at r2 KQ
      rw [hV3] at KQ
      rw [hV3] at r3
      have CN := Lib.hid CN
      have HV0 := Lib.hid hV0
      have HLX : Hid (lv.take (K + 1) = lv.take K ++ [(kn, t)]) := Lib.hid (by rw [List.take_add_one, hlv]; rfl)
      obtain ⟨i0, hi, iz0, iz1, iz2⟩ := hi_int
      have hpz := HPr.out.lt
      clear hV0 hV1 hV2 hV3 hkx hkd hra hblk hby hz0 hlv hev hgn
      go_upto_region 5 with fail
      go_upto_region 6 with (at_builtin; go_loud (refine wpList_append_path _ rfl _ _ 31 rfl B 3 i0 (.int .i64 0) Tryz.underlying31 hi iz0 iz1 iz2 rfl p n rfl (HPr.out.beyond bel) ⟨wr.heap.size + 1, 0, none⟩ 1 (.int .i64 K) rfl (by simp [go_sem]) rfl (by omega) (by simp; omega) ?_; intro g6 cap6 w6 h6))
      have hb6 : wr.grownBy w6 p.ownBlock := grown_trans (grown_below bel _) h6.grown
      have hs6 := h6.grown.size
      simp at hs6
      have hlt6 := h6.lt
      have hpw : p.ownBlock ≠ some wr.heap.size := fun e => by have := hpz _ e; omega
      have hpr : p.ownBlock ≠ some w.heap.size := fun e => by have := hpl _ e; omega
      have hg6 : ∀ b, b < wr.heap.size → p.ownBlock ≠ some b → g6 ≠ b := fun b h1 h2 e => by
        subst e
        rcases h6.at' with h | h
        · exact h2 h
        · simp at h; omega
      have hd3 : ∀ b, Q b → b < w.heap.size → some g6 ≠ some b := fun b h1 h2 e => by
        injection e with e
        exact hg6 b (by omega) (HQ.out b h1 h2) e
      have hgw : g6 ≠ wr.heap.size := fun e => by
        rcases h6.at' with h | h
        · exact hpw (e ▸ h)
        · simp at h; omega
      have hgr : g6 ≠ w.heap.size := hg6 _ hL0 hpr
      have m0 := rC h6.grown wr.heap.size 0 (.string V0) hpw
      have m1 := rC h6.grown wr.heap.size 1 (.int .i64 V1) hpw
      have m2 := rC h6.grown wr.heap.size 2 (.string V2) hpw
      have m3 := rC h6.grown wr.heap.size 3 (.slice sd V3 sc) hpw
      have q0 := rC h6.grown w.heap.size 0 (.int .i64 0) hpr
      have qf0 := rF h6.grown w.heap.size 0 hpr
      have q1 := rC h6.grown w.heap.size 1 (.int .i64 0) hpr
      have qf1 := rF h6.grown w.heap.size 1 hpr
      have q2 := rC h6.grown w.heap.size 2 (.slice none 0 0) hpr
      have qf2 := rF h6.grown w.heap.size 2 hpr
      go_wp2_with fail
      with_reducible refine (CN.out _).mono ?_
      rintro e w' ⟨rfl, rfl⟩
      go_wp2_with fail
      with_reducible refine (HEV.out (fun b => Q b ∧ b < w.heap.size) w6 _ (.slice (some ⟨g6, 0, none⟩) (n + 1) cap6) (n + 1) B (KQ.out w6 hb6) h6.new (by omega) (by omega) ?hq).mono ?_
      case hq => exact fun b hb _ e => hd3 b hb.1 hb.2 e
      rintro e w7 ⟨⟨x, rfl, hx⟩, hg7, hp7⟩
      have pk := pk_child h6 hg7 hp7
      obtain ⟨bv2, s2, rfl, hby2, hkd2⟩ := hx
      have hby3 := Lib.hid hby2
      obtain ⟨sd2, sc2, rfl⟩ := hkd2.slice
      obtain ⟨bd2, bc2, rfl, hbb2⟩ := hby2
      clear hbb2
      have hkd3 := Lib.hid hkd2
      clear hkd2
      have hg7s := hg7.size
      have z0 : w7.cell? ⟨wr.heap.size, 0, none⟩ = some (.string V0) := (row_cell hg7 (b := wr.heap.size) (i := 0) (by omega) (fun e => by injection e with e; exact hgw e)).trans m0
      have z1 : w7.cell? ⟨w.heap.size, 0, none⟩ = some (.int .i64 0) := (row_cell hg7 (b := w.heap.size) (i := 0) (by omega) (fun e => by injection e with e; exact hgr e)).trans q0
      have zf1 : w7.frozen? ⟨w.heap.size, 0, none⟩ = false := (row_frozen hg7 (b := w.heap.size) (i := 0) (by omega) (fun e => by injection e with e; exact hgr e)).trans qf0
      have z2 : w7.cell? ⟨w.heap.size, 1, none⟩ = some (.int .i64 0) := (row_cell hg7 (b := w.heap.size) (i := 1) (by omega) (fun e => by injection e with e; exact hgr e)).trans q1
      have zf2 : w7.frozen? ⟨w.heap.size, 1, none⟩ = false := (row_frozen hg7 (b := w.heap.size) (i := 1) (by omega) (fun e => by injection e with e; exact hgr e)).trans qf1
      have z3 : w7.cell? ⟨w.heap.size, 2, none⟩ = some (.slice none 0 0) := (row_cell hg7 (b := w.heap.size) (i := 2) (by omega) (fun e => by injection e with e; exact hgr e)).trans q2
      have zf3 : w7.frozen? ⟨w.heap.size, 2, none⟩ = false := (row_frozen hg7 (b := w.heap.size) (i := 2) (by omega) (fun e => by injection e with e; exact hgr e)).trans qf2
      have hG7 : wr.grownBy w7 p.ownBlock := grown_trans (grown_below bel _) pk.1
      have hP7 := pk.2
      have hK7 : Keeps (fun b => BB ≤ b) wr w7 := keeps_grown hG7 (fun b hb _ e => by have := hpl _ e; omega)
      obtain ⟨ss, hs1, hs2, hs3⟩ := HD.out
      have hVg := World.ownsRow.lt hs2
      have hs7 := ownsRow_keeps hs2 (fun b hb => hK7.2 b (hVg b hb).1 (hVg b hb).2)
      have hLn : (lv.take K).length = K := by rw [List.length_take, HLV.out]; omega
      rw [hLn] at hs7
      obtain ⟨j0, hj, jz0, jz1, jz2⟩ := hi_field
      obtain ⟨T1, hT1⟩ : ∃ x, t.o.kind = x := ⟨_, rfl⟩
      obtain ⟨T2, hT2⟩ : ∃ x, t.o.bits = x := ⟨_, rfl⟩
      obtain ⟨T3, hT3⟩ : ∃ x, t.o.high = x := ⟨_, rfl⟩
      obtain ⟨T4, hT4⟩ : ∃ x, t.o.low = x := ⟨_, rfl⟩
      obtain ⟨T5, hT5⟩ : ∃ x, bs t.o.text = x := ⟨_, rfl⟩
      obtain ⟨T6, hT6⟩ : ∃ x, bs t.o.more = x := ⟨_, rfl⟩
      obtain ⟨T7, hT7⟩ : ∃ x, t.o.sub = x := ⟨_, rfl⟩
      obtain ⟨T8, hT8⟩ : ∃ x, t.o.bytes.length = x := ⟨_, rfl⟩
      obtain ⟨T9, hT9⟩ : ∃ x, t.kids.length = x := ⟨_, rfl⟩
      have HT := Lib.hid (And.intro hT1 (And.intro hT2 (And.intro hT3 (And.intro hT4 (And.intro hT5 (And.intro hT6 (And.intro hT7 (And.intro hT8 hT9))))))))
      simp only [Lay.cells, hT1, hT2, hT3, hT4, hT5, hT6, hT7, hT8, hT9]
      clear hT1 hT2 hT3 hT4 hT5 hT6 hT7 hT8 hT9 m0 m1 m2 m3 q0 q1 q2 qf0 qf1 qf2 k0 k1 k2 kf0 kf1 kf2 r0 r1 r2 r3 h6 hg7 hp7 pk hb6
      have hy0 : wr.heap.size < w7.heap.size := by omega
      have hy1 : wr.heap.size ≠ w7.heap.size := by omega
      have hy2 : wr.heap.size ≠ w7.heap.size + 1 := by omega
      have hy3 : wr.heap.size < w7.heap.size + 1 := by omega
      have hy4 : w.heap.size < w7.heap.size := by omega
      have hy5 : w.heap.size ≠ w7.heap.size := by omega
      have hy6 : w.heap.size ≠ w7.heap.size + 1 := by omega
      have hy7 : w.heap.size < w7.heap.size + 1 := by omega
      have hy8 : w.heap.size < w7.heap.size + 1 + 1 := by omega
      have hy9 : w.heap.size ≠ w7.heap.size + 1 + 1 := by omega
      go_wp2_with (at_builtin; go_loud (refine wpList_append_lies _ rfl _ _ 37 rfl BB 51 j0 _ 10 136 Tryz.underlying37 hj jz0 jz1 jz2 rfl (by decide) V K (flat .V (lv.take K) ss) rfl (World.ownsRow.alloc (World.ownsRow.alloc (World.ownsRow.alloc hs7 _) _) _) ⟨w7.heap.size + 1 + 1, 0, none⟩ 1 1 [.string V0, .int .i64 T1, .int .u64 T2, .int .u64 T3, .int .u64 T4, .string T5, .string T6, .int .i64 T7, .slice bd2 T8 bc2, .slice sd2 T9 sc2] rfl rfl (World.news_of_block (cs := #[.string V0, .int .i64 T1, .int .u64 T2, .int .u64 T3, .int .u64 T4, .string T5, .string T6, .int .i64 T7, .slice bd2 T8 bc2, .slice sd2 T9 sc2]) (last3v w7 _ _ _)) mem10_one (by decide) (by unfold maxLen; omega) (by omega) (by simp; omega) _ rfl ?_; intro g8 cap8 w8 hown8 hgrow8 hat8 hlt8))
      have hb8 := below_row (B := BB) hgrow8 (by simp; omega) (fun b hb => (hVg b hb).1)
      have hz8 := hb8.size
      simp at hz8
      have hG8 := grown_below2 (grown_alloc (grown_alloc (grown_alloc (grown_trans HG.out hG7) _) _) _) hb8 (by omega)
      have hP8 := hP7.block (fun g hg => (hb8.block g (by have := hpl _ hg; omega)).trans ((show Below w7.heap.size w7 _ from bel).block g (by have := hpl _ hg; omega)))
      have hown9 : w8.ownsRow BB 51 10 (.slice (some ⟨g8, 0, none⟩) (K + 1) cap8) (K + 1) (flat .V (lv.take K) ss ++ Lay.row .V kn t.o (.slice bd2 T8 bc2) (.slice sd2 T9 sc2)) := by
        show World.ownsRow w8 BB _ 10 _ (K + 1) (_ ++ [.string (bs kn), .int .i64 t.o.kind, .int .u64 t.o.bits, .int .u64 t.o.high, .int .u64 t.o.low, .string (bs t.o.text), .string (bs t.o.more), .int .i64 t.o.sub, .slice bd2 T8 bc2, .slice sd2 T9 sc2])
        obtain ⟨u1, u2, u3, u4, u5, u6, u7, u8, u9⟩ := HT.out
        rw [HV0.out, u1, u2, u3, u4, u5, u6, u7]
        exact hown8
      have hby4 := hby3.out
      have hkd4 := hkd3.out
      rw [HT.out.2.2.2.2.2.2.2.1] at hby4
      rw [HT.out.2.2.2.2.2.2.2.2] at hkd4
      have hD8 : Hid (Bd .V 51 w8 BB k (lv.take (K + 1)) (.slice (some ⟨g8, 0, none⟩) (K + 1) cap8)) := Lib.hid (by
        rw [HLX.out]
        refine bd_put (s := (.slice bd2 T8 bc2, .slice sd2 T9 sc2)) hs1 hs3 (keeps_alloc (keeps_alloc (keeps_alloc hK7 _) _) _) (Lay.by'_keeps (L := .V) (Keeps.beyond bel) (Lay.by'_mono (L := .V) (fun b hb _ => ⟨by omega, fun e => by have := (hVg _ e).2; omega⟩) hby4)) ((hkd4.mono (fun b hb _ => ⟨by omega, fun e => by have := (hVg _ e).2; omega⟩)).beyond bel) ?_ hgrow8 (fun b hb => by have e : g8 = b := (by simpa [Value.ownBlock] using hb); subst e; exact hat8.imp_right (fun h => by simpa using h))
        rw [hLn]
        exact hown9)
      have y0 : w8.cell? ⟨w.heap.size, 0, none⟩ = some (.int .i64 0) := (hb8.cell (p := ⟨w.heap.size, 0, none⟩) hBB1).trans (by simp [go_sem, *])
      have yf0 : w8.frozen? ⟨w.heap.size, 0, none⟩ = false := (hb8.frozen (p := ⟨w.heap.size, 0, none⟩) hBB1).trans (by simp [go_sem, *])
      have y1 : w8.cell? ⟨w.heap.size, 1, none⟩ = some (.int .i64 0) := (hb8.cell (p := ⟨w.heap.size, 1, none⟩) hBB1).trans (by simp [go_sem, *])
      have yf1 : w8.frozen? ⟨w.heap.size, 1, none⟩ = false := (hb8.frozen (p := ⟨w.heap.size, 1, none⟩) hBB1).trans (by simp [go_sem, *])
      have y2 : w8.cell? ⟨w.heap.size, 2, none⟩ = some (.slice none 0 0) := (hb8.cell (p := ⟨w.heap.size, 2, none⟩) hBB1).trans (by simp [go_sem, *])
      have yf2 : w8.frozen? ⟨w.heap.size, 2, none⟩ = false := (hb8.frozen (p := ⟨w.heap.size, 2, none⟩) hBB1).trans (by simp [go_sem, *])
      go_roundw
      case rel => exact ⟨K + 1, _, by omega, rfl, by go_num, ⟨y0, yf0, y1, yf1, y2, yf2⟩, Lib.hid hG8, Lib.hid hP8, hD8, by omega⟩
      case measure => simp [intOf]; omega
    · have hKe : K = m := by omega
      subst hKe
      have HD2 : Hid (Bd .V 51 wr BB k lv V) := Lib.hid (by
        have h := HD.out
        rw [List.take_of_length_le (by have := HLV.out; omega)] at h
        exact h)
      obtain ⟨vd, vc, hV⟩ : ∃ ad c, V = .slice ad K c := by
        obtain ⟨ad', c', hv⟩ := HD2.out.done.slice
        exact ⟨ad', c', by rw [hv, HLV.out]⟩
      subst hV
      go_wp2_with fail
      refine bodyPost_ret (v := .tuple #[.slice vd K vc, .agg #[.int .i64 0, .int .i64 0, .slice none 0 0]]) (by simp (maxDischargeDepth := 4) [results, Tryz.results70, go_sem, k0, kf0, k1, kf1, k2, kf2, hL0]) rfl ?_
      refine ⟨⟨_, rfl, ((HD2.out.set (p := ⟨w.heap.size, 0, none⟩) hBB1 _).set (p := ⟨w.heap.size, 1, none⟩) hBB1 _).set (p := ⟨w.heap.size, 2, none⟩) hBB1 _ |>.low (by omega)⟩, ?_, ?_⟩
      · repeat' (first | (with_reducible exact HG.out) | (with_reducible refine grown_set_none ?_ (by dsimp only; omega) _))
      · exact HPr.out.block (fun g hg => by have := hpl _ hg; rw [heap_setCell_other _ _ _ _ (by dsimp only; omega), heap_setCell_other _ _ _ _ (by dsimp only; omega), heap_setCell_other _ _ _ _ (by dsimp only; omega)])
end
end Go.Proofs.YtihnfhhopldllaaGreatDoor
