/- The contract of big.few: the quotient by one digit, and what is left. Condition: a row of at most 1000 digits, a digit above 0. -/
import Derived.Test.YtogmmhacjndebaaDoorN6
import Derived.Laws.BitsAllLaws
import Derived.Outline
namespace Go.Proofs.YtogmmhacjndebaaDoor
open Go.RowKit
set_option linter.unusedSimpArgs false
set_option linter.unusedVariables false
theorem or32 (x y : Int) (k : Nat) (hx0 : 0 ≤ x) (hx : x % 2 ^ k = 0) (hy0 : 0 ≤ y) (hy : y < 2 ^ k) (hx1 : x < 4294967296) (hy1 : y < 4294967296) : bits .or .u32 x y = x + y := by
  obtain ⟨m, rfl⟩ := Int.eq_ofNat_of_zero_le hx0
  obtain ⟨n, rfl⟩ := Int.eq_ofNat_of_zero_le hy0
  have e : ((2 : Int) ^ k) = ((2 ^ k : Nat) : Int) := by rw [Int.natCast_pow]; rfl
  rw [e] at hx hy
  rw [u32_or_nat m n (by omega) (by omega), nat_join k m n (by omega) (by omega), Int.natCast_add]
theorem few_step {a l : List Nat} {k R d T : Nat} (E : valL (l.drop (k + 1)) * d + R = valL (a.drop (k + 1))) (hk : k < a.length) (hl : k < l.length) (hT : T = R * 65536 + a.getD k 0) (hd : 0 < d) :
    valL ((l.set k (T / d)).drop k) * d + T % d = valL (a.drop k) := by
  rw [val_drop (l.set k (T / d)) k (by simpa using hl), val_drop a k hk, getD_set l k _ k hl, if_pos rfl, ← E]
  have e : (l.set k (T / d)).drop (k + 1) = l.drop (k + 1) := List.drop_set_of_lt (by omega)
  rw [e]
  have h := Nat.div_add_mod T d
  rw [Nat.add_mul, Nat.mul_assoc]
  rw [Nat.mul_comm (T / d) d]
  have e2 : 65536 * (valL (l.drop (k + 1)) * d + R) = 65536 * (valL (l.drop (k + 1)) * d) + R * 65536 := by rw [Nat.mul_add, Nat.mul_comm 65536 R]
  omega
theorem few_digit {R d x : Nat} (hR : R < d) (hx : x < 65536) : (R * 65536 + x) / d < 65536 := by
  rw [Nat.div_lt_iff_lt_mul (by omega)]
  have := Nat.mul_le_mul_right 65536 (show R + 1 ≤ d from hR)
  omega
set_option maxHeartbeats 3200000 in
set_option maxRecDepth 100000 in
theorem few_any (ad : Option Addr) (n c : Nat) (a : List Nat) (d : Nat) (hn : a.length = n) (hz : n ≤ 1000) (da : DigL a) (d0 : 1 ≤ d) (d1 : d ≤ 65535) (w : World) (hS : Sl .u16 w ad n (gi a)) :
    Calls Tryd.prog 16 #[.slice ad n c, .int .u16 d] w fun e w' => e = .returned (.tuple #[.slice (some ⟨w.heap.size, 0, none⟩) (dg (valL a / d)).length n, .int .u16 ((valL a % d : Nat) : Int)]) ∧ (dg (valL a / d)).length ≤ n ∧ Sl .u16 w' (some ⟨w.heap.size, 0, none⟩) (dg (valL a / d)).length (gi (dg (valL a / d))) ∧ Below w.heap.size w w' := by
  obtain ⟨i0, hi, iz0, iz1, iz2⟩ := info_parts info_u16
  have HS := Lib.hid hS
  have HN := Lib.hid hn
  have HA := Lib.hid da
  obtain ⟨P, hP⟩ : ∃ P, valL a / d = P := ⟨_, rfl⟩
  obtain ⟨Q, hQ⟩ : ∃ Q, valL a % d = Q := ⟨_, rfl⟩
  rw [hP, hQ]
  have HP := Lib.hid hP
  obtain ⟨D, hD⟩ : ∃ D : Int, (d : Int) = D := ⟨_, rfl⟩
  rw [hD]
  have D0 : 1 ≤ D := by omega
  have D1 : D ≤ 65535 := by omega
  have D2 : ¬ D = 0 := by omega
  have HDD := Lib.hid hD
  clear hD
  have HQ := Lib.hid hQ
  clear hS hn da hP hQ
  go_enter Tryd.func16, Tryd.ntmps16
  go_wp2_with (at_make; refine wpList_make_full _ rfl _ _ 23 rfl w.heap.size 31 i0 (.int .u16 0) 1 Tryd.underlying23 hi iz0 iz1 .i64 .i64 (n : Int) (n : Int) n rfl rfl (by omega) (by omega) (by rw [iz2]; omega) (by unfold maxLen; omega) (Nat.le_refl _) ?_; intro w1 hown1 hgrow1)
  have ro := owns_at0 hown1 (ou (gi (List.replicate n 0))) (fun t ht => by
    simp only [Nat.mul_one] at ht ⊢
    rw [madeu_get rfl ht])
  rw [Nat.mul_one] at ro
  have hw1 : Below w.heap.size w w1 := Below.grown (Below.refl _ _) hgrow1 (Nat.le_refl _) (fun k hk => by cases hk)
  clear hown1 hgrow1
  replace ro := Lib.hid ro
  go_wp2_with fail
  go_loopw [7, 8] (fun r i wr => ∃ (K R : Nat) (l : List Nat), K ≤ n ∧ i = .int .i64 ((K : Int) - 1) ∧ r = .int .u32 (R : Int) ∧ R < d ∧ Row wr w.heap.size n (ou (gi l)) ∧ Hid (l.length = n) ∧ Hid (DigL l) ∧ Hid (valL (l.drop K) * d + R = valL (a.drop K)) ∧ Below w.heap.size w wr) (fun _ i _ => (intOf i + 1).toNat)
  case atStart => exact ⟨n, 0, List.replicate n 0, by omega, rfl, rfl, by omega, ro.out, Lib.hid (by simp), Lib.hid (DigL.rep _), Lib.hid (by rw [List.drop_of_length_le (by simp), List.drop_of_length_le (by have := HN.out; omega)]; simp [valL]), hw1⟩
  case round =>
    obtain ⟨K', R, l, hK, rfl, rfl, hR, r, hll, HD, HE, hbw⟩ := hrel
    clear ro hw1
    rcases (show K' = 0 ∨ ∃ K, K' = K + 1 by cases K' with | zero => exact Or.inl rfl | succ K => exact Or.inr ⟨K, rfl⟩) with rfl | ⟨K, rfl⟩
    · have hE := HE.out
      rw [List.drop_zero, List.drop_zero] at hE
      have e1 : P = valL l := by rw [← HP.out, ← hE, Nat.mul_comm, Nat.mul_add_div (by omega), Nat.div_eq_of_lt hR]; omega
      have e2 : Q = R := by rw [← HQ.out, ← hE, Nat.mul_comm, Nat.mul_add_mod, Nat.mod_eq_of_lt hR]
      have hS1 := row_slu r
      have hl2 := hll.out
      have TR := Lib.hid (bigTrim_any (some ⟨w.heap.size, 0, none⟩) n n l hl2 (Nat.le_refl _) (by omega) HD.out wr hS1)
      obtain ⟨q1, q2⟩ := trim_take HD.out
      have hS2 := sl_take hS1 (k := (dg (valL l)).length) (by omega)
      rw [q2] at hS2
      have eR : IntKind.u16.wrap (R : Int) = (R : Int) := by rw [IntKind.wrap_u16]; omega
      clear HP HQ
      subst e1 e2
      have HS2 := Lib.hid hS2
      have Q1 : Hid ((dg (valL l)).length ≤ n) := Lib.hid (by omega)
      clear hE hS1 hS2 q1 q2 r hl2 HE
      go_wp2_with fail
      with_reducible refine (TR.out).mono ?_
      rintro e w' ⟨rfl, rfl⟩
      go_wp2_with fail
      go_ret2
      exact ⟨rfl, Q1.out, HS2.out, hbw⟩
    · have bx := gi_bd HA.out K
      obtain ⟨ax, rfl, hax, hcx⟩ := HS.out.beyond hbw K (by omega)
      have fr := r.free K (by omega)
      have ck := r.at K (by omega)
      unfold ou at ck
      have rl := r.lt
      obtain ⟨T, hT⟩ : ∃ T : Nat, T = R * 65536 + a.getD K 0 := ⟨_, rfl⟩
      have HE2 := Lib.hid (few_step HE.out (by have := HN.out; omega) (by have := hll.out; omega) hT (by omega))
      have hq : T / d < 65536 := by rw [hT]; exact few_digit hR (HA.out.getD K)
      have hr : T % d < d := Nat.mod_lt _ (by omega)
      have HD2 : Hid (DigL (l.set K (T / d))) := Lib.hid (HD.out.set _ _ hq)
      have HL2 : Hid ((l.set K (T / d)).length = n) := Lib.hid (by rw [List.length_set]; exact hll.out)
      have ST := Lib.hid (fun (W : World) (R : Row W w.heap.size n (ou (gi l))) => row_setl R hll.out K (T / d) (by omega) (((T / d : Nat) : Int)) rfl)
      have hTx : (T : Int) = (R : Int) * 65536 + gi a K := by rw [hT]; unfold gi; omega
      generalize gi a K = x at *
      obtain ⟨x0, x1⟩ := bx
      have hRi : (R : Int) * 65536 ≤ 4294836224 := by omega
      have hRi0 : 0 ≤ (R : Int) * 65536 := by omega
      have hRi9 : (R : Int) < 65536 := by omega
      have eS : IntKind.u32.wrap ((R : Int) * 65536) = (R : Int) * 65536 := IntWalk.u32_in _ (by omega)
      have eO : bits .or .u32 ((R : Int) * 65536) x = (T : Int) := by rw [or32 _ _ 16 hRi0 (by omega) x0 (by omega) (by omega) (by omega), hTx]
      obtain ⟨QI, hQI⟩ : ∃ QI : Int, ((T / d : Nat) : Int) = QI := ⟨_, rfl⟩
      obtain ⟨MI, hMI⟩ : ∃ MI : Int, ((T % d : Nat) : Int) = MI := ⟨_, rfl⟩
      have eQ : (T : Int) / D = QI := by rw [← hQI, Int.natCast_ediv, HDD.out]
      have eM : (T : Int) % D = MI := by rw [← hMI, Int.natCast_emod, HDD.out]
      have Q0 : 0 ≤ QI := by rw [← hQI]; exact Int.natCast_nonneg _
      have Q1 : QI < 65536 := by rw [← hQI]; exact Int.ofNat_lt.2 hq
      rw [hQI] at ST
      have HMI := Lib.hid hMI.symm
      clear hQI hMI
      have T0 : (0 : Int) ≤ (T : Int) := by omega
      have T1 : (T : Int) ≤ 4294967295 := by omega
      have e6 : IntKind.u32.wrap D = D := IntWalk.u32_in _ (by omega)
      have e7 : IntKind.u16.wrap QI = QI := by rw [IntKind.wrap_u16]; omega
      have k2 : ((K + 1 : Nat) : Int) - 1 = (K : Int) := by omega
      rw [k2]
      have k0 : (0 : Int) ≤ (K : Int) := by omega
      have k1 : (K : Int) < (n : Int) := by omega
      replace r := Lib.hid r
      have Hq := Lib.hid hq
      have Hr := Lib.hid hr
      clear hT hTx k2 hq hr
      go_wp2_with fail
      go_roundw
      case rel => exact ⟨K, T % d, l.set K (T / d), by omega, by first | rfl | (simp; done), by first | rw [HMI.out] | (rw [Int.natCast_emod, HDD.out]), Hr.out, ST.out _ r.out, HL2, HD2, HE2, by repeat' (first | (with_reducible assumption) | (with_reducible exact Below.refl _ _) | (with_reducible refine below_drewN ?_ _) | (with_reducible refine Below.drew ?_) | (with_reducible refine Below.setCell ?_ ?_ _) | (with_reducible refine Below.alloc ?_ ?_ _) | omega | (simp; done) | (simp; omega))⟩
      case measure => first | (simp [intOf]; done) | (simp [intOf]; omega)
end Go.Proofs.YtogmmhacjndebaaDoor
