/- Contracts of law 8: awake. Conditions: none. -/
import Derived.Test.YtcpbpdioenbgaaaFo3
namespace Go.Proofs.Ytcpbpdioenbgaaa
open Go.RowKit
set_option linter.unusedSimpArgs false
set_option linter.unusedVariables false
attribute [local irreducible] Fl.K
theorem row_sl {w : World} {g n : Nat} {h : Nat → Int} (r : Row w g n (oi h)) : Sl .i64 w (some ⟨g, 0, none⟩) n h := fun i hi =>
  ⟨_, rfl, r.lt, by
    have hadd : (⟨g, 0, none⟩ : Addr).add i = ⟨g, i, none⟩ := by unfold Addr.add; split <;> simp_all
    rw [hadd]
    exact r.at i hi⟩
/-- A product came back: a row of its own. -/
def RetJ (h : Nat → Int) (L : Nat) (w : World) (e : Ending) (w' : World) : Prop := ∃ g c, e = .returned (.tuple #[.slice (some ⟨g, 0, none⟩) L c, .bool true]) ∧ L ≤ c ∧ Row w' g L (oi h) ∧ Below w.heap.size w w'
theorem retJ_of {h : Nat → Int} {L : Nat} {w : World} {e : Ending} {w' : World} (hL : 1 ≤ L) (r : RetI h L w e w') : RetJ h L w e w' := by
  obtain ⟨v, rfl, ho, hb⟩ := r
  obtain ⟨g, c, rfl, hg, hc, rr⟩ := owns_row ho hL (oi h) (fun t ht => by
    rw [Nat.mul_one] at ht
    rw [List.getElem?_map, List.getElem?_range ht]
    rfl)
  rw [Nat.mul_one] at rr
  exact ⟨g, c, rfl, hc, rr, hb⟩
theorem fold_ret (ad bd : Option Addr) (n c m d : Nat) (f g : Nat → Int) (w : World) (hS : Sl .i64 w ad n f) (hT : Sl .i64 w bd m g) (hn : n ≤ 256) (hm : m ≤ 256) (hn0 : 1 ≤ n) (hm0 : 1 ≤ m) (hf : Dig n f) (hg : Dig m g) :
    Calls Try.prog 6 #[.slice ad n c, .slice bd m d] w (RetJ (wI (fz f n) (fz g m) m n) (n + m - 1) w) :=
  (fold_yes ad bd n c m d f g w hS hT hn hm hn0 hm0 hf hg).mono fun _ _ h => retJ_of (by omega) h
theorem row_of2 {w : World} {a b : Int} {t : TypeId} {h : Nat → Int} (e0 : a = h 0) (e1 : b = h 1) : Row (w.alloc (.cells #[.int .i64 a, .int .i64 b] t)) w.heap.size 2 (oi h) :=
  row_new w _ t _ 2 (fun i hi => by
    subst e0 e1
    match i, hi with
    | 0, _ => rfl
    | 1, _ => rfl)
theorem row_of3 {w : World} {a b c : Int} {t : TypeId} {h : Nat → Int} (e0 : a = h 0) (e1 : b = h 1) (e2 : c = h 2) : Row (w.alloc (.cells #[.int .i64 a, .int .i64 b, .int .i64 c] t)) w.heap.size 3 (oi h) :=
  row_new w _ t _ 3 (fun i hi => by
    subst e0 e1 e2
    match i, hi with
    | 0, _ => rfl
    | 1, _ => rfl
    | 2, _ => rfl)
def f12 (i : Nat) : Int := if i = 0 then 1 else 2
def f34 (i : Nat) : Int := if i = 0 then 3 else 4
def f10 (i : Nat) : Int := if i = 0 then 1 else 0
def w12 : Nat → Int := wI (fz f12 2) (fz f34 2) 2 2
theorem bits1 : floatOfInt .f64 1 = 4607182418800017408 := by decide +kernel
theorem rep1 : Fl.Rep 4607182418800017408 1 := by rw [← bits1]; exact Fl.rep_ofInt 1 (by decide)
theorem four1 (w : World) : Calls Try.prog 8 #[.agg #[.complex .f64 4607182418800017408 0, .complex .f64 0 0, .complex .f64 0 0, .complex .f64 0 0]] w (RetC4 (fun k => sre f10 (fun _ => 0) 1 k 4) (fun k => sim f10 (fun _ => 0) 1 k 4) w) :=
  four_at 4607182418800017408 0 0 0 0 0 0 0 f10 (fun _ => 0) ⟨rep1, Fl.rep0⟩ ⟨Fl.rep0, Fl.rep0⟩ ⟨Fl.rep0, Fl.rep0⟩ ⟨Fl.rep0, Fl.rep0⟩ (fun i hi => by
    show _ ≤ f10 i ∧ f10 i ≤ _ ∧ _ ≤ (0 : Int) ∧ (0 : Int) ≤ _
    unfold f10
    split <;> omega) w
theorem dig12 : Dig 2 f12 := fun i hi => by unfold f12; split <;> omega
theorem dig34 : Dig 2 f34 := fun i hi => by unfold f34; split <;> omega
theorem fold12 (a b : Nat) (w : World) (r1 : Row w a 2 (oi f12)) (r2 : Row w b 2 (oi f34)) : Calls Try.prog 6 #[.slice (some ⟨a, 0, none⟩) 2 2, .slice (some ⟨b, 0, none⟩) 2 2] w (RetJ w12 3 w) :=
  fold_ret _ _ 2 2 2 2 f12 f34 w (row_sl r1) (row_sl r2) (by decide) (by decide) (by decide) (by decide) dig12 dig34
theorem vals12 : (3 : Int) = w12 0 ∧ (10 : Int) = w12 1 ∧ (8 : Int) = w12 2 := by decide
theorem vals1 : sre f10 (fun _ => 0) 1 (3 : Nat) 4 = 1 ∧ sim f10 (fun _ => 0) 1 (3 : Nat) 4 = 0 := by decide
attribute [local go_sem] run_store_complex
set_option maxRecDepth 100000 in
set_option maxHeartbeats 1600000 in
theorem awake8_true (w : World) :
    Calls Try.prog 4 #[] w fun e w' => e = .returned (.bool true) ∧ Below w.heap.size w w' := by
  have F12 := Lib.hid fold12
  have FF := Lib.hid four1
  have SI := Lib.hid (fun (a g c : Nat) (w : World) (r1 : Row w a 3 (oi w12)) (r2 : Row w g 3 (oi w12)) => sameInts_yes (some ⟨a, 0, none⟩) (some ⟨g, 0, none⟩) 3 c 3 w12 w (by decide) (row_sl r1) (row_sl r2))
  have PP : Hid (∀ (x y : Nat) (w : World), Fl.Rep x 1 → Fl.Rep y 0 → Calls Try.prog 9 #[.complex .f64 x y] w fun e w' => e = .returned (.tuple #[.int .i64 1, .int .i64 0, .bool true]) ∧ Below w.heap.size w w') := Lib.hid (fun x y w hx hy => parts_yes hx hy (by decide) (by decide) (by decide) (by decide) w)
  go_enter Try.func4, Try.ntmps4
  go_wp2_with fail
  have q1 : Row ((w.alloc (.cells #[.int .i64 1, .int .i64 2] 3)).alloc (.cells #[.int .i64 3, .int .i64 4] 3)) w.heap.size 2 (oi f12) := (row_of2 (w := w) (a := 1) (b := 2) (t := 3) (h := f12) rfl rfl).alloc _
  have q2 : Row ((w.alloc (.cells #[.int .i64 1, .int .i64 2] 3)).alloc (.cells #[.int .i64 3, .int .i64 4] 3)) (w.heap.size + 1) 2 (oi f34) := by
    have h := row_of2 (w := w.alloc (.cells #[.int .i64 1, .int .i64 2] 3)) (a := 3) (b := 4) (t := 3) (h := f34) rfl rfl
    simp at h
    exact h
  with_reducible refine (F12.out _ _ _ q1 q2).mono ?_
  rintro e w1 ⟨g, c, rfl, hc, r1, hb1⟩
  have hw1 : Below w.heap.size w w1 := Below.trans (by repeat' (first | (with_reducible assumption) | (with_reducible exact Below.refl _ _) | (with_reducible refine below_drewN ?_ _) | (with_reducible refine Below.drew ?_) | (with_reducible refine Below.setCell ?_ ?_ _) | (with_reducible refine Below.alloc ?_ ?_ _) | omega | (simp; done) | (simp; omega))) (hb1.mono (by simp; omega))
  have hz1 := hw1.size
  clear hb1
  replace r1 := Lib.hid r1
  go_wp2_with fail
  with_reducible refine (FF.out _).mono ?_
  rintro e w2 ⟨X, Y, rfl, hR, hb2⟩
  have r2 := r1.out.beyond hb2
  have hw2 := hw1.trans (hb2.mono hz1)
  have hz2 := hw2.size
  have h3 : Fl.Rep (X 3) (sre f10 (fun _ => 0) 1 ((3 : Nat) : Int) 4) ∧ Fl.Rep (Y 3) (sim f10 (fun _ => 0) 1 ((3 : Nat) : Int) 4) := hR 3 (by decide)
  rw [vals1.1, vals1.2] at h3
  have PQ := Lib.hid (fun w => PP.out (X 3) (Y 3) w h3.1 h3.2)
  clear hb2 h3 hR r1
  replace r2 := Lib.hid r2
  unfold c4
  go_wp2_with fail
  with_reducible refine (PQ.out _).mono ?_
  rintro e w3 ⟨rfl, hb3⟩
  have r3 := ((r2.out.alloc (.cells #[.complex .f64 (X 0) (Y 0), .complex .f64 (X 1) (Y 1), .complex .f64 (X 2) (Y 2), .complex .f64 (X 3) (Y 3)] 30)).beyond hb3).alloc (.cells #[.int .i64 3, .int .i64 10, .int .i64 8] 3)
  have r4 : Row (w3.alloc (.cells #[.int .i64 3, .int .i64 10, .int .i64 8] 3)) w3.heap.size 3 (oi w12) := row_of3 vals12.1 vals12.2.1 vals12.2.2
  have hw3 : Below w.heap.size w w3 := Below.trans (by repeat' (first | (with_reducible assumption) | (with_reducible exact Below.refl _ _) | (with_reducible refine below_drewN ?_ _) | (with_reducible refine Below.drew ?_) | (with_reducible refine Below.setCell ?_ ?_ _) | (with_reducible refine Below.alloc ?_ ?_ _) | omega | (simp; done) | (simp; omega))) (hb3.mono (by simp; omega))
  have hz3 := hw3.size
  clear hb3
  replace r3 := Lib.hid r3
  replace r4 := Lib.hid r4
  go_wp2_with fail
  with_reducible refine (SI.out _ _ _ _ r3.out r4.out).mono ?_
  rintro e w5 ⟨rfl, q, rfl⟩
  go_wp2_with fail
  go_ret
  exact ⟨rfl, by repeat' (first | (with_reducible assumption) | (with_reducible exact Below.refl _ _) | (with_reducible refine below_drewN ?_ _) | (with_reducible refine Below.drew ?_) | (with_reducible refine Below.setCell ?_ ?_ _) | (with_reducible refine Below.alloc ?_ ?_ _) | omega | (simp; done) | (simp; omega))⟩
end Go.Proofs.Ytcpbpdioenbgaaa
