/- The contract of the reference's Mul: the product, in its one form. Condition: two rows of at most 1000 digits. -/
import Derived.Test.YtogmmhacjndebaaDoorN5
import Derived.Outline
namespace Go.Proofs.YtogmmhacjndebaaDoor
open Go.RowKit
set_option linter.unusedSimpArgs false
set_option linter.unusedVariables false
theorem mul_step {l b : List Nat} {I K C S x v : Nat} (E : valL l + 65536 ^ (I + K) * C = S + 65536 ^ I * x * valL (b.take K)) (hK : K < b.length) (hl : I + K < l.length) (hv : v = l.getD (I + K) 0 + C + x * b.getD K 0) :
    valL (l.set (I + K) (v % 65536)) + 65536 ^ (I + (K + 1)) * (v / 65536) = S + 65536 ^ I * x * valL (b.take (K + 1)) := by
  have s := val_set l (I + K) (v % 65536) hl
  rw [val_take_succ b K hK, Nat.mul_add, show I + (K + 1) = I + K + 1 by omega, Nat.pow_succ, Nat.mul_assoc]
  have e1 : 65536 ^ I * x * (65536 ^ K * b.getD K 0) = 65536 ^ (I + K) * (x * b.getD K 0) := by
    rw [Nat.pow_add, Nat.mul_assoc, Nat.mul_assoc, ← Nat.mul_assoc x, Nat.mul_comm x (65536 ^ K), Nat.mul_assoc (65536 ^ K)]
  have e2 : 65536 ^ (I + K) * v = 65536 ^ (I + K) * (v % 65536) + 65536 ^ (I + K) * (65536 * (v / 65536)) := by
    rw [← Nat.mul_add]; congr 1; omega
  have e3 : 65536 ^ (I + K) * v = 65536 ^ (I + K) * l.getD (I + K) 0 + 65536 ^ (I + K) * C + 65536 ^ (I + K) * (x * b.getD K 0) := by
    rw [hv, Nat.mul_add, Nat.mul_add]
  rw [e1]
  omega
theorem mul_tail {l : List Nat} {I m C S : Nat} (E : valL l + 65536 ^ (I + m) * C = S) (hl : I + m < l.length) (hz : l.getD (I + m) 0 = 0) : valL (l.set (I + m) C) = S := by
  have s := val_set l (I + m) C hl
  rw [hz] at s
  omega
theorem val_take_mul (a b : List Nat) (I : Nat) (hI : I < a.length) : valL (a.take I) * valL b + 65536 ^ I * a.getD I 0 * valL b = valL (a.take (I + 1)) * valL b := by
  rw [val_take_succ a I hI, Nat.add_mul]
def Upz (l : List Nat) (m : Nat) : Prop := ∀ t, m ≤ t → l.getD t 0 = 0
theorem Upz.set {l : List Nat} {m k d : Nat} (h : Upz l m) (hk : k < l.length) : Upz (l.set k d) (max m (k + 1)) := fun t ht => by
  rw [getD_set l k d t hk, if_neg (by omega)]
  exact h t (by omega)
set_option maxHeartbeats 3200000 in
set_option maxRecDepth 100000 in
theorem refMul_any (ad bd : Option Addr) (n c m d : Nat) (a b : List Nat) (hn : a.length = n) (hm : b.length = m) (hz : n ≤ 1000) (hz2 : m ≤ 1000) (da : DigL a) (db : DigL b) (w : World) (hS : Sl .u16 w ad n (gi a)) (hT : Sl .u16 w bd m (gi b)) :
    Calls Tryd.prog 10 #[.slice ad n c, .slice bd m d] w (RetU (dg (valL a * valL b)) w) := by
  obtain ⟨i0, hi, iz0, iz1, iz2⟩ := info_parts info_u16
  have HS := Lib.hid hS
  have HT := Lib.hid hT
  have HN := Lib.hid hn
  have HM := Lib.hid hm
  have HA := Lib.hid da
  have HB := Lib.hid db
  clear hS hT hn hm da db
  go_enter Tryd.func10, Tryd.ntmps10
  go_wp2_with (at_make; refine wpList_make_full _ rfl _ _ 22 rfl w.heap.size 31 i0 (.int .u16 0) 1 Tryd.underlying22 hi iz0 iz1 .i64 .i64 ((n : Int) + m) ((n : Int) + m) (n + m) rfl rfl (by omega) (by omega) (by rw [iz2]; omega) (by unfold maxLen; omega) (Nat.le_refl _) ?_; intro w1 hown1 hgrow1)
  have ro := owns_at0 hown1 (ou (gi (List.replicate (n + m) 0))) (fun t ht => by
    simp only [Nat.mul_one] at ht ⊢
    rw [madeu_get rfl ht])
  rw [Nat.mul_one] at ro
  have hw1 : Below w.heap.size w w1 := Below.grown (Below.refl _ _) hgrow1 (Nat.le_refl _) (fun k hk => by cases hk)
  clear hown1 hgrow1
  replace ro := Lib.hid ro
  go_wp2_with fail
  go_loopw [6] (fun i wr => ∃ (I : Nat) (l : List Nat), I ≤ n ∧ i = .int .i64 I ∧ Row wr w.heap.size (n + m) (ou (gi l)) ∧ l.length = n + m ∧ Hid (DigL l) ∧ Hid (valL l = valL (a.take I) * valL b) ∧ Hid (Upz l (I + m)) ∧ Below w.heap.size w wr) (fun i _ => n - (intOf i).toNat)
  case atStart => exact ⟨0, List.replicate (n + m) 0, by omega, rfl, ro.out, by simp, Lib.hid (DigL.rep _), Lib.hid (by rw [val_rep, List.take_zero]; simp [valL]), Lib.hid (fun t _ => by rw [List.getD_eq_getElem?_getD, List.getElem?_replicate]; split <;> rfl), hw1⟩
  case round =>
    obtain ⟨I, l, hI, rfl, r, hll, HD, HV, HU, hbw⟩ := hrel
    clear ro hw1
    by_cases hI4 : I < n
    · have bx := gi_bd HA.out I
      obtain ⟨ax, rfl, hax, hcx⟩ := HS.out.beyond hbw I hI4
      have HX : Hid (gi a I = ((a.getD I 0 : Nat) : Int)) := Lib.hid rfl
      replace r := Lib.hid r
      have k0 : (0 : Int) ≤ (I : Int) := by omega
      have k1 : (I : Int) < (n : Int) := by omega
      generalize gi a I = x at *
      obtain ⟨x0, x1⟩ := bx
      have hll' := Lib.hid hll
      clear hll hcx hax
      go_wp2_with fail
      go_loopw [7, 8] (fun q k wr => ∃ (K C : Nat) (l : List Nat), K ≤ m + 1 ∧ k = .int .i64 K ∧ q = .int .u64 C ∧ C ≤ 65535 ∧ Hid (K ≤ m ∨ C = 0) ∧ Row wr w.heap.size (n + m) (ou (gi l)) ∧ Hid (l.length = n + m) ∧ Hid (DigL l) ∧ Hid (valL l + 65536 ^ (I + K) * C = valL (a.take I) * valL b + 65536 ^ I * a.getD I 0 * valL (b.take K)) ∧ Hid (Upz l (max (I + m) (I + K))) ∧ Below w.heap.size w wr) (fun _ k _ => m + 1 - (intOf k).toNat)
      case atStart => exact ⟨0, 0, l, by omega, rfl, rfl, by decide, Lib.hid (Or.inl (by omega)), r.out, hll', HD, Lib.hid (by rw [List.take_zero]; have := HV.out; simp [valL]; exact this), Lib.hid (fun t ht => HU.out t (by omega)), hbw⟩
      case round =>
        clear r hll' HD HV HU hbw
        obtain ⟨K, C, l, hK, rfl, rfl, hC, HKC, r, hll, HD, HE, HU, hbw⟩ := hrel
        have hC' : (C : Int) ≤ 65535 := by omega
        have hC0 : (0 : Int) ≤ (C : Int) := by omega
        by_cases hKm : K < m
        · obtain ⟨ax, hae, hax, hcx⟩ := HS.out.beyond hbw I hI4
          obtain ⟨ay, rfl, hay, hcy⟩ := HT.out.beyond hbw K hKm
          injection hae with hae
          subst hae
          have hgx : gi a I = x := HX.out.symm
          rw [hgx] at hcx
          clear hgx
          have by0 := gi_bd HB.out K
          have bl := gi_bd HD.out (I + K)
          have hidx : I + K < n + m := by omega
          have ck := r.at (I + K) hidx
          unfold ou at ck
          have fr := r.free (I + K) hidx
          have rl := r.lt
          obtain ⟨v, hv⟩ : ∃ v : Nat, v = l.getD (I + K) 0 + C + a.getD I 0 * b.getD K 0 := ⟨_, rfl⟩
          have hvI : (v : Int) = gi l (I + K) + C + x * gi b K := by rw [hv, HX.out, Int.natCast_add, Int.natCast_add, Int.natCast_mul]; rfl
          have HE2 := Lib.hid (mul_step HE.out (by have := HM.out; omega) (by have := hll.out; omega) hv)
          have HU2 : Hid (Upz (l.set (I + K) (v % 65536)) (max (I + m) (I + (K + 1)))) := Lib.hid (fun t ht => (HU.out.set (d := v % 65536) (k := I + K) (by have := hll.out; omega)) t (by omega))
          have HD2 : Hid (DigL (l.set (I + K) (v % 65536))) := Lib.hid (HD.out.set _ _ (by omega))
          have HL2 : Hid ((l.set (I + K) (v % 65536)).length = n + m) := Lib.hid (by rw [List.length_set]; exact hll.out)
          have ST := Lib.hid (fun (W : World) (R : Row W w.heap.size (n + m) (ou (gi l))) => row_setl R hll.out (I + K) (v % 65536) hidx ((v : Int) % 65536) (by omega))
          generalize gi l (I + K) = u at *
          generalize gi b K = y at *
          obtain ⟨y0, y1⟩ := by0
          obtain ⟨u0, u1⟩ := bl
          obtain ⟨pr, hpr⟩ : ∃ pr, x * y = pr := ⟨_, rfl⟩
          have p0 : 0 ≤ pr := by rw [← hpr]; exact Int.mul_nonneg x0 y0
          have p1 : pr ≤ 4294836225 := by rw [← hpr]; exact Int.le_trans (Int.mul_le_mul x1 y1 y0 (by decide)) (by decide)
          have e1 : IntKind.u64.wrap (x * y) = pr := by rw [hpr, IntKind.wrap_u64]; omega
          rw [hpr] at hvI
          obtain ⟨V, hV⟩ : ∃ V : Int, (v : Int) = V := ⟨_, rfl⟩
          rw [hV] at hvI ST
          have e4 : IntKind.u64.wrap x = x := by rw [IntKind.wrap_u64]; omega
          have e5 : IntKind.u64.wrap y = y := by rw [IntKind.wrap_u64]; omega
          have e2 : IntKind.u64.wrap (u + (C : Int) + pr) = V := by rw [hvI, IntKind.wrap_u64]; omega
          have V0 : 0 ≤ V := by omega
          have V1 : V ≤ 4294967295 := by omega
          have e3 : IntKind.u16.wrap (V % 65536) = V % 65536 := by rw [IntKind.wrap_u16]; omega
          have HC2 : Hid (V / 65536 = ((v / 65536 : Nat) : Int)) := Lib.hid (by omega)
          have HC3 : Hid (v / 65536 ≤ 65535) := Lib.hid (by omega)
          have k2 : (0 : Int) ≤ (K : Int) := by omega
          have k3 : (K : Int) < (m : Int) := by omega
          have HVV := Lib.hid hV
          replace r := Lib.hid r
          clear hv hvI hV hpr
          go_wp2_with fail
          go_quiet (fail)
          go_wp2_with fail
          go_roundw
          case rel =>
            refine ⟨K + 1, v / 65536, l.set (I + K) (v % 65536), by omega, by go_num, by rw [HC2.out], HC3.out, Lib.hid (Or.inl (by omega)), ST.out _ r.out, HL2, HD2, HE2, HU2, by repeat' (first | (with_reducible assumption) | (with_reducible exact Below.refl _ _) | (with_reducible refine below_drewN ?_ _) | (with_reducible refine Below.drew ?_) | (with_reducible refine Below.setCell ?_ ?_ _) | (with_reducible refine Below.alloc ?_ ?_ _) | omega | (simp; done) | (simp; omega))⟩
          case measure => first | (simp [intOf]; done) | (simp [intOf]; omega)
        · have hKM : Hid (valL (b.take K) = valL b) := Lib.hid (by rw [take_all (by have := HM.out; omega)])
          by_cases hC1 : 0 < C
          · have hKe : K = m := by have := HKC.out; omega
            subst hKe
            have hidx : I + K < n + K := by omega
            have ck := r.at (I + K) hidx
            unfold ou at ck
            have hz0 : l.getD (I + K) 0 = 0 := HU.out _ (by omega)
            rw [gi_zero.2 hz0] at ck
            have fr := r.free (I + K) hidx
            have rl := r.lt
            have HE2 : Hid (valL (l.set (I + K) C) + 65536 ^ (I + (K + 1)) * 0 = valL (a.take I) * valL b + 65536 ^ I * a.getD I 0 * valL (b.take (K + 1))) := Lib.hid (by
              rw [Nat.mul_zero, Nat.add_zero, mul_tail HE.out (by have := hll.out; omega) hz0, take_all (l := b) (k := K) (by have := HM.out; omega), take_all (l := b) (k := K + 1) (by have := HM.out; omega)])
            have HU2 : Hid (Upz (l.set (I + K) C) (max (I + K) (I + (K + 1)))) := Lib.hid (fun t ht => (HU.out.set (d := C) (k := I + K) (by have := hll.out; omega)) t (by omega))
            have HD2 : Hid (DigL (l.set (I + K) C)) := Lib.hid (HD.out.set _ _ (by omega))
            have HL2 : Hid ((l.set (I + K) C).length = n + K) := Lib.hid (by rw [List.length_set]; exact hll.out)
            have ST := Lib.hid (row_setl r hll.out (I + K) C hidx (C : Int) rfl)
            have e1 : IntKind.u16.wrap (C : Int) = (C : Int) := by rw [IntKind.wrap_u16]; omega
            have e2 : (C : Int) % 65536 = (C : Int) := by omega
            have e3 : (C : Int) / 65536 = 0 := by omega
            have hCi : (0 : Int) < (C : Int) := by omega
            clear r hz0
            go_wp2_with fail
            go_roundw
            case rel =>
              refine ⟨K + 1, 0, l.set (I + K) C, by omega, by go_num, by first | rfl | (simp; done), by decide, Lib.hid (Or.inr rfl), ST.out, HL2, HD2, HE2, HU2, by repeat' (first | (with_reducible assumption) | (with_reducible exact Below.refl _ _) | (with_reducible refine below_drewN ?_ _) | (with_reducible refine Below.drew ?_) | (with_reducible refine Below.setCell ?_ ?_ _) | (with_reducible refine Below.alloc ?_ ?_ _) | omega | (simp; done) | (simp; omega))⟩
            case measure => first | (simp [intOf]; done) | (simp [intOf]; omega)
          · obtain rfl : C = 0 := by omega
            have HV2 : Hid (valL l = valL (a.take (I + 1)) * valL b) := Lib.hid (by
              have h := HE.out
              rw [hKM.out, Nat.mul_zero, Nat.add_zero, val_take_mul a b I (by have := HN.out; omega)] at h
              exact h)
            have HU2 : Hid (Upz l (I + 1 + m)) := Lib.hid (fun t ht => HU.out t (by omega))
            have hll' := hll.out
            replace r := Lib.hid r
            clear hC hC' hC0 hC1 HKC HE HU hKM
            go_wp2_with fail
            go_roundw
            case rel => exact ⟨I + 1, l, by omega, by go_num, r.out, hll', HD, HV2, HU2, hbw⟩
            case measure => first | (simp [intOf]; done) | (simp [intOf]; omega)
    · have hIe : I = n := by omega
      have hV : valL l = valL a * valL b := by rw [HV.out, take_all (by have := HN.out; omega)]
      have hS1 := row_slu r
      have TR := Lib.hid (refTrim_any (some ⟨w.heap.size, 0, none⟩) (n + m) (n + m) l hll (Nat.le_refl _) (by omega) HD.out wr hS1)
      obtain ⟨q1, q2⟩ := trim_take HD.out
      have hS2 := sl_take hS1 (k := (dg (valL l)).length) (by omega)
      rw [q2] at hS2
      rw [hV] at TR hS2 q1
      have HS2 := Lib.hid hS2
      rw [hll] at q1
      have Q1 := Lib.hid q1
      clear hV hS1 hS2 q1 q2 r hll HV HU
      go_wp2_with fail
      with_reducible refine (TR.out).mono ?_
      rintro e w' ⟨rfl, rfl⟩
      go_wp2_with fail
      go_ret
      exact ⟨_, _, rfl, Q1.out, HS2.out, hbw⟩
end Go.Proofs.YtogmmhacjndebaaDoor
