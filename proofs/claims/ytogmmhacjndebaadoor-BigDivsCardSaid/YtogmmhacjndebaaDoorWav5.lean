/- Contracts of package wave: pairs. Conditions: as each says. -/
import Derived.Test.YtogmmhacjndebaaDoorWav4
namespace Go.Proofs.YtogmmhacjndebaaDoor
open Go.RowKit
set_option linter.unusedSimpArgs false
set_option linter.unusedVariables false

attribute [local irreducible] Fl.K
def at4 {α : Type} (a b c d : α) (i : Nat) : α := match i with | 0 => a | 1 => b | 2 => c | _ => d
theorem four_at (x0 y0 x1 y1 x2 y2 x3 y3 : Nat) (a b : Nat → Int) (h0 : Fl.Rep x0 (a 0) ∧ Fl.Rep y0 (b 0)) (h1 : Fl.Rep x1 (a 1) ∧ Fl.Rep y1 (b 1)) (h2 : Fl.Rep x2 (a 2) ∧ Fl.Rep y2 (b 2)) (h3 : Fl.Rep x3 (a 3) ∧ Fl.Rep y3 (b 3)) (hb : Fit a b) (w : World) :
    Calls Tryd.prog 43 #[.agg #[.complex .f64 x0 y0, .complex .f64 x1 y1, .complex .f64 x2 y2, .complex .f64 x3 y3]] w (RetC4 (fun k => sre a b 1 k 4) (fun k => sim a b 1 k 4) w) :=
  four_yes (at4 x0 x1 x2 x3) (at4 y0 y1 y2 y3) a b (fun i hi => by rcases four_cases hi with rfl | rfl | rfl | rfl <;> assumption) hb w

/-- The cells of m numbers of four. -/
def pcells (X Y : Nat → Nat → Nat) : Nat → List Value
  | 0 => []
  | m + 1 => pcells X Y m ++ [.complex .f64 (X m 0) (Y m 0), .complex .f64 (X m 1) (Y m 1), .complex .f64 (X m 2) (Y m 2), .complex .f64 (X m 3) (Y m 3)]
theorem pcells_length (X Y : Nat → Nat → Nat) (m : Nat) : (pcells X Y m).length = 4 * m := by
  induction m with
  | zero => rfl
  | succ m ih => rw [pcells, List.length_append, ih]; simp; omega
theorem pcells_get (X Y : Nat → Nat → Nat) (m i k : Nat) (hi : i < m) (hk : k < 4) : (pcells X Y m)[4 * i + k]? = some (.complex .f64 (X i k) (Y i k)) := by
  induction m with
  | zero => omega
  | succ m ih =>
    rw [pcells]
    by_cases him : i < m
    · rw [List.getElem?_append_left (by rw [pcells_length]; omega)]
      exact ih him
    · obtain rfl : i = m := by omega
      rw [List.getElem?_append_right (by rw [pcells_length]; omega), pcells_length]
      rw [show 4 * i + k - 4 * i = k from by omega]
      rcases four_cases hk with rfl | rfl | rfl | rfl <;> rfl
theorem pcells_congr {X Y X' Y' : Nat → Nat → Nat} (m : Nat) (h : ∀ i, i < m → X i = X' i ∧ Y i = Y' i) : pcells X Y m = pcells X' Y' m := by
  induction m with
  | zero => rfl
  | succ m ih => rw [pcells, pcells, ih (fun i hi => h i (by omega)), (h m (by omega)).1, (h m (by omega)).2]

/-- A list's number, 0 beyond its end. -/
def fz (f : Nat → Int) (n : Nat) (i : Nat) : Int := if i < n then f i else 0
def pa (p q : Int) (j : Nat) : Int := if j = 0 then p else if j = 1 then q else 0
def pRe (f : Nat → Int) (n i : Nat) (k : Nat) : Int := sre (pa (fz f n (2 * i)) (fz f n (2 * i + 1))) (fun _ => 0) 1 k 4
def pIm (f : Nat → Int) (n i : Nat) (k : Nat) : Int := sim (pa (fz f n (2 * i)) (fz f n (2 * i + 1))) (fun _ => 0) 1 k 4
theorem fit_pa {p q : Int} (p0 : 0 ≤ p) (p1 : p ≤ 65535) (q0 : 0 ≤ q) (q1 : q ≤ 65535) : Fit (pa p q) (fun _ => 0) := fun i _ => by
  show _ ≤ pa p q i ∧ pa p q i ≤ _ ∧ _ ≤ (0 : Int) ∧ (0 : Int) ≤ _
  unfold pa
  (repeat' split) <;> omega
theorem pair_calls {p q : Int} (x0 x1 : Nat) (y0 y1 : Nat) (hx : Fl.Rep x0 p) (hx' : Fl.Rep y0 0) (hy : Fl.Rep x1 q) (hy' : Fl.Rep y1 0) (p0 : 0 ≤ p) (p1 : p ≤ 65535) (q0 : 0 ≤ q) (q1 : q ≤ 65535) (w : World) :
    Calls Tryd.prog 43 #[.agg #[.complex .f64 x0 y0, .complex .f64 x1 y1, .complex .f64 0 0, .complex .f64 0 0]] w (RetC4 (fun k => sre (pa p q) (fun _ => 0) 1 k 4) (fun k => sim (pa p q) (fun _ => 0) 1 k 4) w) :=
  by
  have e0 : pa p q 0 = p := rfl
  have e1 : pa p q 1 = q := rfl
  have e2 : pa p q 2 = 0 := rfl
  have e3 : pa p q 3 = 0 := rfl
  exact four_at x0 y0 x1 y1 0 0 0 0 (pa p q) (fun _ => 0) ⟨by rw [e0]; exact hx, hx'⟩ ⟨by rw [e1]; exact hy, hy'⟩ ⟨by rw [e2]; exact Fl.rep0, Fl.rep0⟩ ⟨by rw [e3]; exact Fl.rep0, Fl.rep0⟩ (fit_pa p0 p1 q0 q1) w

def RetP (f : Nat → Int) (n : Nat) (w : World) (e : Ending) (w' : World) : Prop := ∃ v X Y, e = .returned v ∧ w'.ownsRow w.heap.size 58 4 v ((n + 1) / 2) (pcells X Y ((n + 1) / 2)) ∧ (∀ i, i < (n + 1) / 2 → Reps (X i) (Y i) (pRe f n i) (pIm f n i) 4) ∧ Below w.heap.size w w'
theorem info45 : (Tryd.prog.info? 58).map (fun i => (i.zero, i.size, i.bytes)) = some (some (.agg #[.complex .f64 0 0, .complex .f64 0 0, .complex .f64 0 0, .complex .f64 0 0]), 4, 64) := by kernel_rfl

theorem owns_beyond {w w' : World} {base : Nat} {e : TypeId} {size : Nat} {v : Value} {n : Nat} {xs : List Value} (h : w.ownsRow base e size v n xs) (hb : Below w.heap.size w w') : w'.ownsRow base e size v n xs :=
  h.kept (row := none) ⟨hb.os, hb.tape, hb.output, hb.size, fun k hk _ => hb.block k hk⟩ (by cases v.ownBlock <;> simp)
theorem pair_step {X Y : Nat → Nat → Nat} {X5 Y5 : Nat → Nat} {f : Nat → Int} {n K : Nat} {p q : Int} (hXY : ∀ i, i < K → Reps (X i) (Y i) (pRe f n i) (pIm f n i) 4)
    (h5 : Reps X5 Y5 (fun k => sre (pa p q) (fun _ => 0) 1 k 4) (fun k => sim (pa p q) (fun _ => 0) 1 k 4) 4) (hp : fz f n (2 * K) = p) (hq : fz f n (2 * K + 1) = q) :
    ∃ X' Y' : Nat → Nat → Nat, pcells X Y K ++ [.complex .f64 (X5 0) (Y5 0), .complex .f64 (X5 1) (Y5 1), .complex .f64 (X5 2) (Y5 2), .complex .f64 (X5 3) (Y5 3)] = pcells X' Y' (K + 1) ∧ ∀ i, i < K + 1 → Reps (X' i) (Y' i) (pRe f n i) (pIm f n i) 4 := by
  refine ⟨fun i => if i = K then X5 else X i, fun i => if i = K then Y5 else Y i, ?_, fun i hi => ?_⟩
  · rw [pcells, pcells_congr (X := X) (Y := Y) (X' := fun i => if i = K then X5 else X i) (Y' := fun i => if i = K then Y5 else Y i) K (fun i hi => ⟨by simp only [if_neg (show ¬ i = K by omega)], by simp only [if_neg (show ¬ i = K by omega)]⟩)]
    simp
  · by_cases hik : i = K
    · subst hik
      simp only [if_pos rfl]
      unfold pRe pIm
      rw [hp, hq]
      exact h5
    · simp only [if_neg hik]
      exact hXY i (by omega)

attribute [local go_sem] run_store_complex
set_option maxRecDepth 100000 in
set_option maxHeartbeats 3200000 in
theorem pairs_any (ad : Option Addr) (n c : Nat) (f : Nat → Int) (w : World) (hS : Sl .i64 w ad n f) (hn : n ≤ 256) (hf : Dig n f) :
    Calls Tryd.prog 31 #[.slice ad n c] w (RetP f n w) := by
  obtain ⟨i0, hi, hz0, hz1, hz2⟩ := info_parts info45
  replace hS := Lib.hid hS
  replace hf := Lib.hid hf
  go_enter Tryd.func31, Tryd.ntmps31
  go_wp2_with fail
  go_loopw [3, 4] (fun v i wr => ∃ K J : Nat, Hid (J = 2 * K) ∧ J ≤ n + 1 ∧ i = .int .i64 J ∧ ∃ X Y, wr.ownsRow w.heap.size 58 4 v K (pcells X Y K) ∧ Hid (∀ i, i < K → Reps (X i) (Y i) (pRe f n i) (pIm f n i) 4) ∧ Below w.heap.size w wr) (fun _ i _ => n + 2 - (intOf i).toNat)
  case atStart => exact ⟨0, 0, Lib.hid rfl, by omega, rfl, fun _ _ => 0, fun _ _ => 0, World.ownsRow_nil _ _ _ _, Lib.hid (fun i hi => by omega), Below.refl _ _⟩
  case round =>
    obtain ⟨K, J, hJK, hJ, rfl, X, Y, hown, hXY, hbw⟩ := hrel
    have hSr := hS.out.beyond hbw
    have hzr := hbw.size
    by_cases hJn : J < n
    · obtain ⟨a, rfl, hl, hc⟩ := hSr J hJn
      obtain ⟨g0, g1⟩ := hf.out J hJn
      have O1 := Lib.hid (fun w => of_yes (f J) 0 (by omega) (by omega) (by decide) (by decide) w)
      have R1 := Fl.rep_ofInt (f J) (by omega)
      have R0 := Fl.rep_ofInt 0 (by decide)
      replace hown := Lib.hid hown
      by_cases hJ1 : J + 1 < n
      · obtain ⟨a', ha', hl', hc'⟩ := hSr (J + 1) hJ1
        injection ha' with ha'
        subst ha'
        have hc2 : wr.cell? ⟨a.block, a.off + (J + 1), none⟩ = some (.int .i64 (f (J + 1))) := by
          rw [← hc']
          unfold Addr.add
          rw [if_neg (by omega)]
        obtain ⟨g2, g3⟩ := hf.out (J + 1) hJ1
        have O2 := Lib.hid (fun w => of_yes (f (J + 1)) 0 (by omega) (by omega) (by decide) (by decide) w)
        have R2 := Fl.rep_ofInt (f (J + 1)) (by omega)
        have FF := Lib.hid (fun w => pair_calls _ _ _ _ R1 R0 R2 R0 g0 g1 g2 g3 w)
        generalize floatOfInt .f64 (f J) = u at *
        generalize floatOfInt .f64 (f (J + 1)) = v at *
        generalize floatOfInt .f64 0 = z at *
        clear R0 R1 R2
        go_wp2_with fail
        with_reducible refine (O1.out _).mono ?_
        rintro e w' ⟨rfl, rfl⟩
        go_wp2_with fail
        with_reducible refine (O2.out _).mono ?_
        rintro e w' ⟨rfl, rfl⟩
        go_wp2_with fail
        with_reducible refine (FF.out _).mono ?_
        rintro e w5 ⟨X5, Y5, rfl, hR5, hb5⟩
        have hown5 := owns_beyond (hown.out.alloc _) hb5
        have hw5 : Below w.heap.size w w5 := Below.trans (by repeat' (first | (with_reducible assumption) | (with_reducible exact Below.refl _ _) | (with_reducible refine below_drewN ?_ _) | (with_reducible refine Below.drew ?_) | (with_reducible refine Below.setCell ?_ ?_ _) | (with_reducible refine Below.alloc ?_ ?_ _) | omega | (simp; done) | (simp; omega))) (hb5.mono (by have := hbw.size; simp; omega))
        have hz5 := hw5.size
        have hblk := fun k hk => (hown5.lt k hk).1
        have hKn : K ≤ 256 := by have := hJK.out; omega
        clear hown
        replace hR5 := Lib.hid hR5
        replace hblk := Lib.hid hblk
        replace hXY := Lib.hid hXY.out
        unfold c4
        go_wp2_with (at_builtin; refine wpList_append_own _ rfl _ _ 55 rfl w.heap.size 58 i0 _ 4 64 Tryd.underlying55 hi hz0 hz1 hz2 rfl (by decide) _ K (pcells X Y K) rfl (hown5.alloc _) ⟨w5.heap.size, 0, none⟩ 1 1 [.complex .f64 (X5 0) (Y5 0), .complex .f64 (X5 1) (Y5 1), .complex .f64 (X5 2) (Y5 2), .complex .f64 (X5 3) (Y5 3)] rfl rfl ?c1A ?c2A ?c3A ?c4A ?c5A ?_)
        case c1A =>
          intro j u hj
          match j, hj with
          | 0, hj => simp at hj; subst hj; simp [Addr.add]
          | 1, hj => simp at hj; subst hj; simp [Addr.add]
          | 2, hj => simp at hj; subst hj; simp [Addr.add]
          | 3, hj => simp at hj; subst hj; simp [Addr.add]
          | j + 4, hj => simp at hj
        case c2A =>
          intro u hu
          simp at hu
          rcases hu with rfl | rfl | rfl | rfl <;> rfl
        case c3A => unfold maxLen; omega
        case c4A => omega
        case c5A => simp; omega
        intro v' w6 hown6 hgrow6 _
        have hw6 : Below w.heap.size w w6 := Below.grown (by repeat' (first | (with_reducible assumption) | (with_reducible exact Below.refl _ _) | (with_reducible refine below_drewN ?_ _) | (with_reducible refine Below.drew ?_) | (with_reducible refine Below.setCell ?_ ?_ _) | (with_reducible refine Below.alloc ?_ ?_ _) | omega | (simp; done) | (simp; omega))) hgrow6 (by simp; omega) (fun k hk => hblk.out k hk)
        clear hown5 hgrow6
        replace hown6 := Lib.hid hown6
        go_wp2_with fail
        go_roundw
        case measure => simp [intOf]; omega
        case rel =>
          obtain ⟨X', Y', e1, e2⟩ := pair_step hXY.out hR5.out (by unfold fz; rw [← hJK.out, if_pos (by omega)]) (by unfold fz; rw [← hJK.out, if_pos (by omega)])
          refine ⟨K + 1, J + 2, Lib.hid (by have := hJK.out; omega), by omega, by go_num, X', Y', ?_, Lib.hid e2, hw6⟩
          rw [← e1]
          exact hown6.out
      · have FF := Lib.hid (fun w => pair_calls _ 0 _ 0 R1 R0 Fl.rep0 Fl.rep0 g0 g1 (by decide) (by decide) w)
        generalize floatOfInt .f64 (f J) = u at *
        generalize floatOfInt .f64 0 = z at *
        clear R0 R1
        go_wp2_with fail
        with_reducible refine (O1.out _).mono ?_
        rintro e w' ⟨rfl, rfl⟩
        go_wp2_with fail
        with_reducible refine (FF.out _).mono ?_
        rintro e w5 ⟨X5, Y5, rfl, hR5, hb5⟩
        have hown5 := owns_beyond (hown.out.alloc _) hb5
        have hw5 : Below w.heap.size w w5 := Below.trans (by repeat' (first | (with_reducible assumption) | (with_reducible exact Below.refl _ _) | (with_reducible refine below_drewN ?_ _) | (with_reducible refine Below.drew ?_) | (with_reducible refine Below.setCell ?_ ?_ _) | (with_reducible refine Below.alloc ?_ ?_ _) | omega | (simp; done) | (simp; omega))) (hb5.mono (by have := hbw.size; simp; omega))
        have hz5 := hw5.size
        have hblk := fun k hk => (hown5.lt k hk).1
        have hKn : K ≤ 256 := by have := hJK.out; omega
        clear hown
        replace hR5 := Lib.hid hR5
        replace hblk := Lib.hid hblk
        replace hXY := Lib.hid hXY.out
        unfold c4
        go_wp2_with (at_builtin; refine wpList_append_own _ rfl _ _ 55 rfl w.heap.size 58 i0 _ 4 64 Tryd.underlying55 hi hz0 hz1 hz2 rfl (by decide) _ K (pcells X Y K) rfl (hown5.alloc _) ⟨w5.heap.size, 0, none⟩ 1 1 [.complex .f64 (X5 0) (Y5 0), .complex .f64 (X5 1) (Y5 1), .complex .f64 (X5 2) (Y5 2), .complex .f64 (X5 3) (Y5 3)] rfl rfl ?c1B ?c2B ?c3B ?c4B ?c5B ?_)
        case c1B =>
          intro j u hj
          match j, hj with
          | 0, hj => simp at hj; subst hj; simp [Addr.add]
          | 1, hj => simp at hj; subst hj; simp [Addr.add]
          | 2, hj => simp at hj; subst hj; simp [Addr.add]
          | 3, hj => simp at hj; subst hj; simp [Addr.add]
          | j + 4, hj => simp at hj
        case c2B =>
          intro u hu
          simp at hu
          rcases hu with rfl | rfl | rfl | rfl <;> rfl
        case c3B => unfold maxLen; omega
        case c4B => omega
        case c5B => simp; omega
        intro v' w6 hown6 hgrow6 _
        have hw6 : Below w.heap.size w w6 := Below.grown (by repeat' (first | (with_reducible assumption) | (with_reducible exact Below.refl _ _) | (with_reducible refine below_drewN ?_ _) | (with_reducible refine Below.drew ?_) | (with_reducible refine Below.setCell ?_ ?_ _) | (with_reducible refine Below.alloc ?_ ?_ _) | omega | (simp; done) | (simp; omega))) hgrow6 (by simp; omega) (fun k hk => hblk.out k hk)
        clear hown5 hgrow6
        replace hown6 := Lib.hid hown6
        go_wp2_with fail
        go_roundw
        case measure => simp [intOf]; omega
        case rel =>
          obtain ⟨X', Y', e1, e2⟩ := pair_step hXY.out hR5.out (by unfold fz; rw [← hJK.out, if_pos (by omega)]) (by unfold fz; rw [← hJK.out, if_neg (by omega)])
          refine ⟨K + 1, J + 2, Lib.hid (by have := hJK.out; omega), by omega, by go_num, X', Y', ?_, Lib.hid e2, hw6⟩
          rw [← e1]
          exact hown6.out
    · have hKe : K = (n + 1) / 2 := by have := hJK.out; omega
      replace hown := Lib.hid hown
      replace hKe := Lib.hid hKe
      replace hSr := Lib.hid hSr
      go_wp2_with fail
      go_ret
      have h1 := hown.out
      have h2 := hXY.out
      rw [hKe.out] at h1 h2
      exact ⟨_, X, Y, rfl, h1, h2, hbw⟩
end Go.Proofs.YtogmmhacjndebaaDoor
