/- Contracts of decimals: Join, the program's and the reference's. No condition. -/
import Derived.Test.YtiagngnpbpblaaaDoorDec2
import Derived.Deep.RegionHeld
namespace Go.Proofs.YtiagngnpbpblaaaDoor
open Go.RowKit
set_option linter.unusedSimpArgs false
set_option linter.unusedVariables false

set_option maxRecDepth 100000 in
set_option maxHeartbeats 3200000 in
theorem refJoin_any (n : Bool) (h l x : Int) (h0 : 0 ≤ h) (h1 : h ≤ 18446744073709551615) (l0 : 0 ≤ l) (l1 : l ≤ 18446744073709551615) (x0 : -9223372036854775808 ≤ x) (x1 : x ≤ 9223372036854775807) (w : World) :
    Calls Tryd.prog 17 #[.bool n, .agg #[.int .u64 h, .int .u64 l], .int .i64 x] w fun e w' =>
      e = .returned (.tuple #[.int .u64 (jHigh n h l x), .int .u64 (jLow h l x), .bool (jOk h l x)]) ∧ Below w.heap.size w w' := by
  have hct := cmp_ten h l h0 l0 l1
  have cmp := fun w => refWCmp_any h l 542101086242752 4003012203950112768 w
  have jf := jOk_false h l x
  have jt := jOk_true h l x
  have hv : wV h l = h * 18446744073709551616 + l := rfl
  generalize wCmp h l 542101086242752 4003012203950112768 = c at *
  obtain ⟨J, hJ⟩ : ∃ J, jOk h l x = J := ⟨_, rfl⟩
  have hjh : jHigh n h l x = if J then (x + 6176) * 562949953421312 + h + (if n then 9223372036854775808 else 0) else 0 := by unfold jHigh; rw [hJ]
  have hjl : jLow h l x = if J then l else 0 := by unfold jLow; rw [hJ]
  have hjv : J = true → h < 562949953421312 ∧ 0 ≤ x + 6176 ∧ x + 6176 < 12288 := by
    intro e; rw [← hJ] at e; exact jOk_small h l x h0 l0 e
  rw [hjh, hjl, hJ]
  rw [hJ] at jf jt
  generalize wV h l = V at *
  have HV := Lib.hid hv
  have CM := Lib.hid cmp
  have HC := Lib.hid hct
  have JF := Lib.hid jf
  have JT := Lib.hid jt
  have JV := Lib.hid hjv
  clear cmp hct jf jt hJ hjh hjl hv hjv
  go_enter Tryd.func17, Tryd.ntmps17
  go_upto_region 1 with fail
  go_cut [21] (fun s W => s = .bool (!J) ∧ W.cell? ⟨w.heap.size, 0, none⟩ = some (.int .u64 h) ∧ W.cell? ⟨w.heap.size, 1, none⟩ = some (.int .u64 l) ∧ Below w.heap.size w W)
  case first =>
    have hsz : w.heap.size < w.heap.size + 1 := Nat.lt_succ_self _
    by_cases hb : 10000000000000000000000000000000000 ≤ V
    · have hc0 : 0 ≤ c := HC.out.2 hb
      have g1 : decide (0 ≤ c) = true := by simpa using hc0
      have hJ : J = false := JF.out (.inl hb)
      subst hJ
      first | (go_region_held (fun W => W.cell? ⟨w.heap.size, 0, none⟩ = some (.int .u64 h) ∧ W.cell? ⟨w.heap.size, 1, none⟩ = some (.int .u64 l) ∧ w.heap.size < W.heap.size ∧ Below w.heap.size w W) (((try dsimp only); (repeat' apply And.intro) <;> (first | assumption | (simp [*, go_sem]; done) | omega | (simp; omega) | (repeat' (first | (with_reducible assumption) | (with_reducible exact Below.refl _ _) | (with_reducible refine below_drewN ?_ _) | (with_reducible refine Below.drew ?_) | (with_reducible refine Below.setCell ?_ ?_ _) | (with_reducible refine Below.alloc ?_ ?_ _) | omega | (simp; done) | (simp; omega)))))) (first | (go_at_call 47; (with_reducible refine (refTen34_any _).mono ?_); rintro e w2 ⟨rfl, hb2⟩; obtain ⟨t0, t1, t2, t3⟩ := keep4 (w := w) (a := .int .u64 h) (b := .int .u64 l) hb2 (by first | assumption | (simp [go_sem]; done)) (by first | assumption | (simp [go_sem]; done)) (by first | assumption | (simp; done)) (by first | assumption | (repeat' (first | (with_reducible assumption) | (with_reducible exact Below.refl _ _) | (with_reducible refine below_drewN ?_ _) | (with_reducible refine Below.drew ?_) | (with_reducible refine Below.setCell ?_ ?_ _) | (with_reducible refine Below.alloc ?_ ?_ _) | omega | (simp; done) | (simp; omega))))) | (go_at_call 46; (with_reducible refine (CM.out _).mono ?_); rintro e w3 ⟨rfl, hb2⟩; obtain ⟨t0, t1, t2, t3⟩ := keep4 (w := w) (a := .int .u64 h) (b := .int .u64 l) hb2 (by first | assumption | (simp [go_sem]; done)) (by first | assumption | (simp [go_sem]; done)) (by first | assumption | (simp; done)) (by first | assumption | (repeat' (first | (with_reducible assumption) | (with_reducible exact Below.refl _ _) | (with_reducible refine below_drewN ?_ _) | (with_reducible refine Below.drew ?_) | (with_reducible refine Below.setCell ?_ ?_ _) | (with_reducible refine Below.alloc ?_ ?_ _) | omega | (simp; done) | (simp; omega))))))) | fail
      all_goals
        go_wp2_with fail
        go_meet
        exact ⟨by simp, by first | assumption | (simp [*, go_sem]; done), by first | assumption | (simp [*, go_sem]; done), by first | assumption | (repeat' (first | (with_reducible assumption) | (with_reducible exact Below.refl _ _) | (with_reducible refine below_drewN ?_ _) | (with_reducible refine Below.drew ?_) | (with_reducible refine Below.setCell ?_ ?_ _) | (with_reducible refine Below.alloc ?_ ?_ _) | omega | (simp; done) | (simp; omega)))⟩
    · have hc0 : c < 0 := by have := HC.out; omega
      have g1 : decide (0 ≤ c) = false := by simpa using hc0
      by_cases hx1 : x < -6176
      · have hJ : J = false := JF.out (.inr (.inl hx1))
        have g2 : decide (x < -6176) = true := by simpa using hx1
        subst hJ
        first | (go_region_held (fun W => W.cell? ⟨w.heap.size, 0, none⟩ = some (.int .u64 h) ∧ W.cell? ⟨w.heap.size, 1, none⟩ = some (.int .u64 l) ∧ w.heap.size < W.heap.size ∧ Below w.heap.size w W) (((try dsimp only); (repeat' apply And.intro) <;> (first | assumption | (simp [*, go_sem]; done) | omega | (simp; omega) | (repeat' (first | (with_reducible assumption) | (with_reducible exact Below.refl _ _) | (with_reducible refine below_drewN ?_ _) | (with_reducible refine Below.drew ?_) | (with_reducible refine Below.setCell ?_ ?_ _) | (with_reducible refine Below.alloc ?_ ?_ _) | omega | (simp; done) | (simp; omega)))))) (first | (go_at_call 47; (with_reducible refine (refTen34_any _).mono ?_); rintro e w2 ⟨rfl, hb2⟩; obtain ⟨t0, t1, t2, t3⟩ := keep4 (w := w) (a := .int .u64 h) (b := .int .u64 l) hb2 (by first | assumption | (simp [go_sem]; done)) (by first | assumption | (simp [go_sem]; done)) (by first | assumption | (simp; done)) (by first | assumption | (repeat' (first | (with_reducible assumption) | (with_reducible exact Below.refl _ _) | (with_reducible refine below_drewN ?_ _) | (with_reducible refine Below.drew ?_) | (with_reducible refine Below.setCell ?_ ?_ _) | (with_reducible refine Below.alloc ?_ ?_ _) | omega | (simp; done) | (simp; omega))))) | (go_at_call 46; (with_reducible refine (CM.out _).mono ?_); rintro e w3 ⟨rfl, hb2⟩; obtain ⟨t0, t1, t2, t3⟩ := keep4 (w := w) (a := .int .u64 h) (b := .int .u64 l) hb2 (by first | assumption | (simp [go_sem]; done)) (by first | assumption | (simp [go_sem]; done)) (by first | assumption | (simp; done)) (by first | assumption | (repeat' (first | (with_reducible assumption) | (with_reducible exact Below.refl _ _) | (with_reducible refine below_drewN ?_ _) | (with_reducible refine Below.drew ?_) | (with_reducible refine Below.setCell ?_ ?_ _) | (with_reducible refine Below.alloc ?_ ?_ _) | omega | (simp; done) | (simp; omega))))))) | fail
        all_goals
          go_wp2_with fail
          go_meet
          exact ⟨by simp, by first | assumption | (simp [*, go_sem]; done), by first | assumption | (simp [*, go_sem]; done), by first | assumption | (repeat' (first | (with_reducible assumption) | (with_reducible exact Below.refl _ _) | (with_reducible refine below_drewN ?_ _) | (with_reducible refine Below.drew ?_) | (with_reducible refine Below.setCell ?_ ?_ _) | (with_reducible refine Below.alloc ?_ ?_ _) | omega | (simp; done) | (simp; omega)))⟩
      · have g2 : decide (x < -6176) = false := by simpa using hx1
        by_cases hx2 : 6111 < x
        · have g3 : decide (6111 < x) = true := by simpa using hx2
          have hJ : J = false := JF.out (.inr (.inr hx2))
          subst hJ
          first | (go_region_held (fun W => W.cell? ⟨w.heap.size, 0, none⟩ = some (.int .u64 h) ∧ W.cell? ⟨w.heap.size, 1, none⟩ = some (.int .u64 l) ∧ w.heap.size < W.heap.size ∧ Below w.heap.size w W) (((try dsimp only); (repeat' apply And.intro) <;> (first | assumption | (simp [*, go_sem]; done) | omega | (simp; omega) | (repeat' (first | (with_reducible assumption) | (with_reducible exact Below.refl _ _) | (with_reducible refine below_drewN ?_ _) | (with_reducible refine Below.drew ?_) | (with_reducible refine Below.setCell ?_ ?_ _) | (with_reducible refine Below.alloc ?_ ?_ _) | omega | (simp; done) | (simp; omega)))))) (first | (go_at_call 47; (with_reducible refine (refTen34_any _).mono ?_); rintro e w2 ⟨rfl, hb2⟩; obtain ⟨t0, t1, t2, t3⟩ := keep4 (w := w) (a := .int .u64 h) (b := .int .u64 l) hb2 (by first | assumption | (simp [go_sem]; done)) (by first | assumption | (simp [go_sem]; done)) (by first | assumption | (simp; done)) (by first | assumption | (repeat' (first | (with_reducible assumption) | (with_reducible exact Below.refl _ _) | (with_reducible refine below_drewN ?_ _) | (with_reducible refine Below.drew ?_) | (with_reducible refine Below.setCell ?_ ?_ _) | (with_reducible refine Below.alloc ?_ ?_ _) | omega | (simp; done) | (simp; omega))))) | (go_at_call 46; (with_reducible refine (CM.out _).mono ?_); rintro e w3 ⟨rfl, hb2⟩; obtain ⟨t0, t1, t2, t3⟩ := keep4 (w := w) (a := .int .u64 h) (b := .int .u64 l) hb2 (by first | assumption | (simp [go_sem]; done)) (by first | assumption | (simp [go_sem]; done)) (by first | assumption | (simp; done)) (by first | assumption | (repeat' (first | (with_reducible assumption) | (with_reducible exact Below.refl _ _) | (with_reducible refine below_drewN ?_ _) | (with_reducible refine Below.drew ?_) | (with_reducible refine Below.setCell ?_ ?_ _) | (with_reducible refine Below.alloc ?_ ?_ _) | omega | (simp; done) | (simp; omega))))))) | fail
          all_goals
            go_wp2_with fail
            go_meet
            exact ⟨by simp, by first | assumption | (simp [*, go_sem]; done), by first | assumption | (simp [*, go_sem]; done), by first | assumption | (repeat' (first | (with_reducible assumption) | (with_reducible exact Below.refl _ _) | (with_reducible refine below_drewN ?_ _) | (with_reducible refine Below.drew ?_) | (with_reducible refine Below.setCell ?_ ?_ _) | (with_reducible refine Below.alloc ?_ ?_ _) | omega | (simp; done) | (simp; omega)))⟩
        · have g3 : decide (6111 < x) = false := by simpa using hx2
          have hJ : J = true := JT.out hb hx1 hx2
          subst hJ
          first | (go_region_held (fun W => W.cell? ⟨w.heap.size, 0, none⟩ = some (.int .u64 h) ∧ W.cell? ⟨w.heap.size, 1, none⟩ = some (.int .u64 l) ∧ w.heap.size < W.heap.size ∧ Below w.heap.size w W) (((try dsimp only); (repeat' apply And.intro) <;> (first | assumption | (simp [*, go_sem]; done) | omega | (simp; omega) | (repeat' (first | (with_reducible assumption) | (with_reducible exact Below.refl _ _) | (with_reducible refine below_drewN ?_ _) | (with_reducible refine Below.drew ?_) | (with_reducible refine Below.setCell ?_ ?_ _) | (with_reducible refine Below.alloc ?_ ?_ _) | omega | (simp; done) | (simp; omega)))))) (first | (go_at_call 47; (with_reducible refine (refTen34_any _).mono ?_); rintro e w2 ⟨rfl, hb2⟩; obtain ⟨t0, t1, t2, t3⟩ := keep4 (w := w) (a := .int .u64 h) (b := .int .u64 l) hb2 (by first | assumption | (simp [go_sem]; done)) (by first | assumption | (simp [go_sem]; done)) (by first | assumption | (simp; done)) (by first | assumption | (repeat' (first | (with_reducible assumption) | (with_reducible exact Below.refl _ _) | (with_reducible refine below_drewN ?_ _) | (with_reducible refine Below.drew ?_) | (with_reducible refine Below.setCell ?_ ?_ _) | (with_reducible refine Below.alloc ?_ ?_ _) | omega | (simp; done) | (simp; omega))))) | (go_at_call 46; (with_reducible refine (CM.out _).mono ?_); rintro e w3 ⟨rfl, hb2⟩; obtain ⟨t0, t1, t2, t3⟩ := keep4 (w := w) (a := .int .u64 h) (b := .int .u64 l) hb2 (by first | assumption | (simp [go_sem]; done)) (by first | assumption | (simp [go_sem]; done)) (by first | assumption | (simp; done)) (by first | assumption | (repeat' (first | (with_reducible assumption) | (with_reducible exact Below.refl _ _) | (with_reducible refine below_drewN ?_ _) | (with_reducible refine Below.drew ?_) | (with_reducible refine Below.setCell ?_ ?_ _) | (with_reducible refine Below.alloc ?_ ?_ _) | omega | (simp; done) | (simp; omega))))))) | fail
          all_goals
            go_wp2_with fail
            go_meet
            exact ⟨by simp, by first | assumption | (simp [*, go_sem]; done), by first | assumption | (simp [*, go_sem]; done), by first | assumption | (repeat' (first | (with_reducible assumption) | (with_reducible exact Below.refl _ _) | (with_reducible refine below_drewN ?_ _) | (with_reducible refine Below.drew ?_) | (with_reducible refine Below.setCell ?_ ?_ _) | (with_reducible refine Below.alloc ?_ ?_ _) | omega | (simp; done) | (simp; omega)))⟩
  case rest =>
    obtain ⟨rfl, k0, k1, hbw⟩ := hcut
    obtain ⟨wo, rfl⟩ : ∃ wo : World, wo = wc := ⟨_, rfl⟩
    have hsz := hbw.size
    cases J
    · go_wp2_with fail
      refine bodyPost_ret (results_tmp3 rfl _ _ _) rfl ?_
      exact ⟨ret_j rfl rfl rfl, by repeat' (first | (with_reducible assumption) | (with_reducible exact Below.refl _ _) | (with_reducible refine below_drewN ?_ _) | (with_reducible refine Below.drew ?_) | (with_reducible refine Below.setCell ?_ ?_ _) | (with_reducible refine Below.alloc ?_ ?_ _) | omega | (simp; done) | (simp; omega))⟩
    · obtain ⟨b0, b1, b2⟩ := JV.out rfl
      have e1 : wrap64 (x + 6176) = x + 6176 := by unfold wrap64; omega
      have e2 : IntKind.u64.wrap (x + 6176) = x + 6176 := by rw [IntKind.wrap_u64]; omega
      have e3 : IntKind.u64.wrap ((x + 6176) * 562949953421312) = (x + 6176) * 562949953421312 := by rw [IntKind.wrap_u64]; omega
      have e4 : IntKind.u64.wrap ((x + 6176) * 562949953421312 + h) = (x + 6176) * 562949953421312 + h := by rw [IntKind.wrap_u64]; omega
      have e5 : IntKind.u64.wrap ((x + 6176) * 562949953421312 + h + 9223372036854775808) = (x + 6176) * 562949953421312 + h + 9223372036854775808 := by rw [IntKind.wrap_u64]; omega
      cases n
      · go_wp2_with fail
        go_quiet (fail)
        go_wp2_with fail
        refine bodyPost_ret (results_tmp3 rfl _ _ _) rfl ?_
        exact ⟨ret_j (by simp) (by simp) rfl, by repeat' (first | (with_reducible assumption) | (with_reducible exact Below.refl _ _) | (with_reducible refine below_drewN ?_ _) | (with_reducible refine Below.drew ?_) | (with_reducible refine Below.setCell ?_ ?_ _) | (with_reducible refine Below.alloc ?_ ?_ _) | omega | (simp; done) | (simp; omega))⟩
      · go_wp2_with fail
        go_quiet (fail)
        go_wp2_with fail
        refine bodyPost_ret (results_tmp3 rfl _ _ _) rfl ?_
        exact ⟨ret_j (by simp) (by simp) rfl, by repeat' (first | (with_reducible assumption) | (with_reducible exact Below.refl _ _) | (with_reducible refine below_drewN ?_ _) | (with_reducible refine Below.drew ?_) | (with_reducible refine Below.setCell ?_ ?_ _) | (with_reducible refine Below.alloc ?_ ?_ _) | omega | (simp; done) | (simp; omega))⟩

end Go.Proofs.YtiagngnpbpblaaaDoor
