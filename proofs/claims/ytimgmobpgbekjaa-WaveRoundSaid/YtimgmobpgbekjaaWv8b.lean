/- Contracts of law 8: made. No condition. -/
import Derived.Test.YtimgmobpgbekjaaWv8
import Derived.Test.YtimgmobpgbekjaaBack
import Derived.Test.YtimgmobpgbekjaaFl4
namespace Go.Proofs.Ytimgmobpgbekjaa
open Go.RowKit
attribute [local irreducible] Fl.K
/-- Pair k of the eight is fit. -/
def fit1 (l : Nat → Int) (k : Nat) : Prop := (-1125899906842624 ≤ l (2 * k) ∧ l (2 * k) ≤ 1125899906842624) ∧ (-1125899906842624 ≤ l (2 * k + 1) ∧ l (2 * k + 1) ≤ 1125899906842624)
instance (l : Nat → Int) (k : Nat) : Decidable (fit1 l k) := by unfold fit1; infer_instance
def fitB (l : Nat → Int) : Nat → Bool
  | 0 => true
  | n + 1 => fitB l n && decide (fit1 l n)
theorem fitB_iff (l : Nat → Int) (n : Nat) : fitB l n = true ↔ ∀ i, i < n → fit1 l i := by
  induction n with
  | zero => simp [fitB]
  | succ n ih =>
    rw [fitB, Bool.and_eq_true, ih, decide_eq_true_eq]
    constructor
    · rintro ⟨h1, h2⟩ i hi
      by_cases h : i < n
      · exact h1 i h
      · obtain rfl : i = n := by omega
        exact h2
    · exact fun h => ⟨fun i hi => h i (by omega), h n (by omega)⟩
theorem fitB_no {l : Nat → Int} {K : Nat} (h : fitB l K = false ∨ ¬ fit1 l K) : fitB l (K + 1) = false := by
  rw [fitB]
  rcases h with h | h
  · rw [h]; rfl
  · rw [decide_eq_false h]; cases fitB l K <;> rfl
theorem fitB_yes {l : Nat → Int} {K : Nat} (h : fitB l K = true) (h1 : fit1 l K) : fitB l (K + 1) = true := by
  rw [fitB, h, decide_eq_true h1]; rfl
def mx (l : Nat → Int) (K i : Nat) : Nat := if i < K then floatOfInt .f64 (l (2 * i)) else 0
def my (l : Nat → Int) (K i : Nat) : Nat := if i < K then floatOfInt .f64 (l (2 * i + 1)) else 0
theorem mxy_step (l : Nat → Int) (K i : Nat) : upd (cx (mx l K) (my l K)) K (.complex .f64 (floatOfInt .f64 (l (2 * K))) (floatOfInt .f64 (l (2 * K + 1)))) i = cx (mx l (K + 1)) (my l (K + 1)) i := by
  unfold upd cx mx my
  by_cases h : i = K
  · subst h
    rw [if_pos rfl, if_pos (by omega), if_pos (by omega)]
  · rw [if_neg h]
    by_cases h2 : i < K
    · rw [if_pos h2, if_pos h2, if_pos (by omega), if_pos (by omega)]
    · rw [if_neg h2, if_neg h2, if_neg (by omega), if_neg (by omega)]
theorem row8 (w : World) (l : Nat → Int) (t : TypeId) : Row (w.alloc (.cells #[.int .i64 (l 0), .int .i64 (l 1), .int .i64 (l 2), .int .i64 (l 3), .int .i64 (l 4), .int .i64 (l 5), .int .i64 (l 6), .int .i64 (l 7)] t)) w.heap.size 8 (oi l) :=
  row_new w _ t _ 8 (fun i hi => by
    match i, hi with
    | 0, _ => rfl
    | 1, _ => rfl
    | 2, _ => rfl
    | 3, _ => rfl
    | 4, _ => rfl
    | 5, _ => rfl
    | 6, _ => rfl
    | 7, _ => rfl)
def RetM (l : Nat → Int) (w : World) (e : Ending) (w' : World) : Prop := e = .returned (.tuple #[c4 (mx l 4) (my l 4), .bool (fitB l 4)]) ∧ Below w.heap.size w w'
attribute [local go_sem] run_store_complex
set_option maxRecDepth 100000 in
set_option maxHeartbeats 3200000 in
theorem made_any (l : Nat → Int) (w : World) : Calls Try.prog 27 #[c8 .i64 l] w (RetM l w) := by
  unfold c8
  have R8 := row8 w l 44
  have R4 := row_new (w.alloc (.cells #[.int .i64 (l 0), .int .i64 (l 1), .int .i64 (l 2), .int .i64 (l 3), .int .i64 (l 4), .int .i64 (l 5), .int .i64 (l 6), .int .i64 (l 7)] 44)) #[.complex .f64 0 0, .complex .f64 0 0, .complex .f64 0 0, .complex .f64 0 0] 45 (cx (fun _ => 0) (fun _ => 0)) 4 (fun i hi => list_four (f := cx (fun _ => 0) (fun _ => 0)) i hi)
  have R5 := row_new ((w.alloc (.cells #[.int .i64 (l 0), .int .i64 (l 1), .int .i64 (l 2), .int .i64 (l 3), .int .i64 (l 4), .int .i64 (l 5), .int .i64 (l 6), .int .i64 (l 7)] 44)).alloc (.cells #[.complex .f64 0 0, .complex .f64 0 0, .complex .f64 0 0, .complex .f64 0 0] 45)) #[.complex .f64 0 0, .complex .f64 0 0, .complex .f64 0 0, .complex .f64 0 0] 45 (cx (mx l 0) (my l 0)) 4 (fun i hi => list_four (f := cx (fun _ => 0) (fun _ => 0)) i hi)
  simp only [World.size_alloc] at R4 R5
  replace R8 := Lib.hid R8
  replace R4 := Lib.hid R4
  replace R5 := Lib.hid R5
  go_enter Try.func27, Try.ntmps27
  go_wp2_with fail
  go_loopw [5, 6] (fun b k wr => ∃ K : Nat, K ≤ 4 ∧ k = .int .i64 K ∧ ∃ B, b = .bool B ∧ Hid (fitB l K = B) ∧ Row wr w.heap.size 8 (oi l) ∧ Row wr (w.heap.size + 1) 4 (cx (fun _ => 0) (fun _ => 0)) ∧ Row wr (w.heap.size + 1 + 1) 4 (cx (mx l K) (my l K)) ∧ Below w.heap.size w wr) (fun _ k _ => (4 - intOf k).toNat)
  case atStart =>
    exact ⟨0, by omega, rfl, true, rfl, Lib.hid rfl, (R8.out.alloc _).alloc _, R4.out.alloc _, R5.out, by repeat' (first | (with_reducible assumption) | (with_reducible exact Below.refl _ _) | (with_reducible refine below_drewN ?_ _) | (with_reducible refine Below.drew ?_) | (with_reducible refine Below.setCell ?_ ?_ _) | (with_reducible refine Below.alloc ?_ ?_ _) | omega | (simp; done) | (simp; omega))⟩
  case round =>
    obtain ⟨K, hK, rfl, B, rfl, hB, r1, r2, r3, hbw⟩ := hrel
    obtain ⟨wo, rfl⟩ : ∃ wo : World, wo = wr := ⟨_, rfl⟩
    have l1 := r1.lt
    have l2 := r2.lt
    have l3 := r3.lt
    have n1 := Lib.hid (show w.heap.size + 1 + 1 ≠ w.heap.size by omega)
    have n2 := Lib.hid (show w.heap.size + 1 + 1 ≠ w.heap.size + 1 by omega)
    by_cases hK4 : K < 4
    · have hd1 : decide ((K : Int) < 4) = true := by simp; omega
      have e1 := r1.at (2 * K) (by omega)
      have e2 := r1.at (2 * K + 1) (by omega)
      unfold oi at e1 e2
      have fr := r3.free K hK4
      have ck := r3.at K hK4
      unfold cx at ck
      have hK0 : (0 : Int) ≤ (K : Int) := by omega
      have hK1 : (K : Int) < 4 := by omega
      have c1 := fun w => run_i2f (l (2 * K)) w
      have c2 := fun w => run_i2f (l (2 * K + 1)) w
      have st := Lib.hid (fun i => mxy_step l K i)
      generalize floatOfInt .f64 (l (2 * K)) = u at *
      generalize floatOfInt .f64 (l (2 * K + 1)) = v at *
      replace r1 := Lib.hid r1
      replace r2 := Lib.hid r2
      replace r3 := Lib.hid r3
      cases B
      · have hN := Lib.hid (fitB_no (.inl hB.out))
        clear hB
        go_wp2_with fail
        go_region
        all_goals
          go_wp2_with fail
          go_roundw
          case measure => simp [intOf]; omega
          case rel =>
            refine ⟨K + 1, by omega, by go_num, false, by first | rfl | (simp [*]; done) | (simp; omega), ?_, ?_, ?_, ?_, ?_⟩
            · exact hN
            · refine Row.setOther ?_ _ n1.out _; exact r1.out
            · refine Row.setOther ?_ _ n2.out _; exact r2.out
            · refine (Row.set (g := cx (mx l K) (my l K)) (n := 4) ?_ K hK4 _).congr (fun i hi => st.out i)
              exact r3.out
            · have hb' : Below w.heap.size w (wo.setCell ⟨w.heap.size + 1 + 1, K, none⟩ (.complex .f64 u v)) := hbw.setCell (by show w.heap.size ≤ w.heap.size + 1 + 1; omega) _
              repeat' (first | (with_reducible exact hb') | (with_reducible refine below_drewN ?_ _) | (with_reducible refine Below.drew ?_))
      · by_cases a1 : -1125899906842624 ≤ l (2 * K)
        · by_cases a2 : l (2 * K) ≤ 1125899906842624
          · by_cases a3 : -1125899906842624 ≤ l (2 * K + 1)
            · by_cases a4 : l (2 * K + 1) ≤ 1125899906842624
              · have hN := Lib.hid (fitB_yes hB.out ⟨⟨a1, a2⟩, a3, a4⟩)
                clear hB
                go_wp2_with fail
                go_region
                all_goals
                  go_wp2_with fail
                  go_roundw
                  case measure => simp [intOf]; omega
                  case rel =>
                    refine ⟨K + 1, by omega, by go_num, true, by first | rfl | (simp [*]; done) | (simp; omega), ?_, ?_, ?_, ?_, ?_⟩
                    · exact hN
                    · refine Row.setOther ?_ _ n1.out _; exact r1.out
                    · refine Row.setOther ?_ _ n2.out _; exact r2.out
                    · refine (Row.set (g := cx (mx l K) (my l K)) (n := 4) ?_ K hK4 _).congr (fun i hi => st.out i)
                      exact r3.out
                    · have hb' : Below w.heap.size w (wo.setCell ⟨w.heap.size + 1 + 1, K, none⟩ (.complex .f64 u v)) := hbw.setCell (by show w.heap.size ≤ w.heap.size + 1 + 1; omega) _
                      repeat' (first | (with_reducible exact hb') | (with_reducible refine below_drewN ?_ _) | (with_reducible refine Below.drew ?_))
              · have hN := Lib.hid (fitB_no (.inr fun h => a4 h.2.2) : fitB l (K + 1) = false)
                clear hB
                go_wp2_with fail
                go_region
                all_goals
                  go_wp2_with fail
                  go_roundw
                  case measure => simp [intOf]; omega
                  case rel =>
                    refine ⟨K + 1, by omega, by go_num, false, by first | rfl | (simp [*]; done) | (simp; omega), ?_, ?_, ?_, ?_, ?_⟩
                    · exact hN
                    · refine Row.setOther ?_ _ n1.out _; exact r1.out
                    · refine Row.setOther ?_ _ n2.out _; exact r2.out
                    · refine (Row.set (g := cx (mx l K) (my l K)) (n := 4) ?_ K hK4 _).congr (fun i hi => st.out i)
                      exact r3.out
                    · have hb' : Below w.heap.size w (wo.setCell ⟨w.heap.size + 1 + 1, K, none⟩ (.complex .f64 u v)) := hbw.setCell (by show w.heap.size ≤ w.heap.size + 1 + 1; omega) _
                      repeat' (first | (with_reducible exact hb') | (with_reducible refine below_drewN ?_ _) | (with_reducible refine Below.drew ?_))
            · have hN := Lib.hid (fitB_no (.inr fun h => a3 h.2.1) : fitB l (K + 1) = false)
              clear hB
              go_wp2_with fail
              go_region
              all_goals
                go_wp2_with fail
                go_roundw
                case measure => simp [intOf]; omega
                case rel =>
                  refine ⟨K + 1, by omega, by go_num, false, by first | rfl | (simp [*]; done) | (simp; omega), ?_, ?_, ?_, ?_, ?_⟩
                  · exact hN
                  · refine Row.setOther ?_ _ n1.out _; exact r1.out
                  · refine Row.setOther ?_ _ n2.out _; exact r2.out
                  · refine (Row.set (g := cx (mx l K) (my l K)) (n := 4) ?_ K hK4 _).congr (fun i hi => st.out i)
                    exact r3.out
                  · have hb' : Below w.heap.size w (wo.setCell ⟨w.heap.size + 1 + 1, K, none⟩ (.complex .f64 u v)) := hbw.setCell (by show w.heap.size ≤ w.heap.size + 1 + 1; omega) _
                    repeat' (first | (with_reducible exact hb') | (with_reducible refine below_drewN ?_ _) | (with_reducible refine Below.drew ?_))
          · have hN := Lib.hid (fitB_no (.inr fun h => a2 h.1.2) : fitB l (K + 1) = false)
            clear hB
            go_wp2_with fail
            go_region
            all_goals
              go_wp2_with fail
              go_roundw
              case measure => simp [intOf]; omega
              case rel =>
                refine ⟨K + 1, by omega, by go_num, false, by first | rfl | (simp [*]; done) | (simp; omega), ?_, ?_, ?_, ?_, ?_⟩
                · exact hN
                · refine Row.setOther ?_ _ n1.out _; exact r1.out
                · refine Row.setOther ?_ _ n2.out _; exact r2.out
                · refine (Row.set (g := cx (mx l K) (my l K)) (n := 4) ?_ K hK4 _).congr (fun i hi => st.out i)
                  exact r3.out
                · have hb' : Below w.heap.size w (wo.setCell ⟨w.heap.size + 1 + 1, K, none⟩ (.complex .f64 u v)) := hbw.setCell (by show w.heap.size ≤ w.heap.size + 1 + 1; omega) _
                  repeat' (first | (with_reducible exact hb') | (with_reducible refine below_drewN ?_ _) | (with_reducible refine Below.drew ?_))
        · have hN := Lib.hid (fitB_no (.inr fun h => a1 h.1.1) : fitB l (K + 1) = false)
          clear hB
          go_wp2_with fail
          go_region
          all_goals
            go_wp2_with fail
            go_roundw
            case measure => simp [intOf]; omega
            case rel =>
              refine ⟨K + 1, by omega, by go_num, false, by first | rfl | (simp [*]; done) | (simp; omega), ?_, ?_, ?_, ?_, ?_⟩
              · exact hN
              · refine Row.setOther ?_ _ n1.out _; exact r1.out
              · refine Row.setOther ?_ _ n2.out _; exact r2.out
              · refine (Row.set (g := cx (mx l K) (my l K)) (n := 4) ?_ K hK4 _).congr (fun i hi => st.out i)
                exact r3.out
              · have hb' : Below w.heap.size w (wo.setCell ⟨w.heap.size + 1 + 1, K, none⟩ (.complex .f64 u v)) := hbw.setCell (by show w.heap.size ≤ w.heap.size + 1 + 1; omega) _
                repeat' (first | (with_reducible exact hb') | (with_reducible refine below_drewN ?_ _) | (with_reducible refine Below.drew ?_))
    · have hKe : K = 4 := by omega
      rw [hKe] at r3 hB
      obtain ⟨b0, b1, b2, b3⟩ := cells_at r3
      obtain ⟨d0, d1, d2, d3⟩ := cells_at r2
      obtain ⟨f0, f1, f2, f3⟩ := free_at r2
      replace r1 := Lib.hid r1
      replace r2 := Lib.hid r2
      replace r3 := Lib.hid r3
      go_wp2_with fail
      refine bodyPost_ret (v := .tuple #[c4 (mx l 4) (my l 4), .bool B]) (by unfold c4; simp (maxDischargeDepth := 6) [results, Try.results27, go_sem, *]) rfl ?_
      refine ⟨by rw [hB.out], by repeat' (first | (with_reducible assumption) | (with_reducible exact Below.refl _ _) | (with_reducible refine below_drewN ?_ _) | (with_reducible refine Below.drew ?_) | (with_reducible refine Below.setCell ?_ ?_ _) | (with_reducible refine Below.alloc ?_ ?_ _) | omega | (simp; done) | (simp; omega))⟩
end Go.Proofs.Ytimgmobpgbekjaa
