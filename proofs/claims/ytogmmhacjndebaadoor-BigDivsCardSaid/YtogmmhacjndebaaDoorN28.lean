/- The contract of big.down: a row of digits by a power of 2. Condition: a row of at most 2000 digits, a power below 16. -/
import Derived.Test.YtogmmhacjndebaaDoorN27
import Derived.Test.YtogmmhacjndebaaDoorKd
import Derived.Outline
namespace Go.Proofs.YtogmmhacjndebaaDoor
open Go.RowKit
set_option linter.unusedSimpArgs false
set_option linter.unusedVariables false
attribute [local irreducible] Fl.K
theorem or16b (x y : Int) (q p : Nat) (h : q * p = 65536) (hk : ∃ k, k ≤ 16 ∧ p = 2 ^ k) (x0 : 0 ≤ x) (x1 : x < p) (y0 : 0 ≤ y) (y1 : y < 65536) (ym : y % p = 0) : bits .or .u16 x y = x + y := by
  obtain ⟨k, hk, rfl⟩ := hk
  have hp2 : 2 ^ k ≤ 65536 := Nat.pow_le_pow_right (n := 2) (by decide) hk
  obtain ⟨m, rfl⟩ := Int.eq_ofNat_of_zero_le y0
  obtain ⟨n, rfl⟩ := Int.eq_ofNat_of_zero_le x0
  rw [u16_or_nat n m (by omega) (by omega), Nat.or_comm, nat_join k m n (by omega) (by omega), Int.natCast_add, Int.add_comm]
set_option maxHeartbeats 6400000 in
set_option maxRecDepth 100000 in
theorem down_any (ad : Option Addr) (n c : Nat) (a : List Nat) (s : Nat) (S : Int) (hS' : S = (s : Int)) (hs : s ≤ 15) (hn : a.length = n) (hz : n ≤ 2000) (ha : DigL a) (w : World) (hS : Sl .u16 w ad n (gi a)) :
    Calls Tryd.prog 22 #[.slice ad n c, .int .i64 S] w (RetU (dg (valL a / 2 ^ s)) w) := by
  obtain ⟨i0, hi, iz0, iz1, iz2⟩ := info_parts info_u16
  obtain ⟨k, hk⟩ : ∃ k, s + k = 16 := ⟨16 - s, by omega⟩
  obtain ⟨q, hq⟩ : ∃ q, 2 ^ s = q := ⟨_, rfl⟩
  obtain ⟨p, hp⟩ : ∃ p, 2 ^ k = p := ⟨_, rfl⟩
  have hqp : q * p = 65536 := by rw [← hq, ← hp, ← Nat.pow_add, hk]
  have hq0 : 0 < q := by rw [← hq]; exact Nat.pow_pos (by decide)
  have hp0 : 0 < p := by rw [← hp]; exact Nat.pow_pos (by decide)
  have hq1 : q ≤ 32768 := by rw [← hq]; exact Nat.pow_le_pow_right (n := 2) (by decide) hs
  have hp1 : p ≤ 65536 := by rw [← hp]; exact Nat.pow_le_pow_right (n := 2) (by decide) (by omega : k ≤ 16)
  obtain ⟨Q, hQ⟩ : ∃ Q : Int, (2 : Int) ^ S.toNat = Q := ⟨_, rfl⟩
  obtain ⟨P, hP⟩ : ∃ P : Int, (2 : Int) ^ (16 - S).toNat = P := ⟨_, rfl⟩
  have hQq : Q = (q : Int) := by rw [← hQ, ← hq, hS', Int.toNat_natCast, Int.natCast_pow]; rfl
  have hPp : P = (p : Int) := by rw [← hP, ← hp, show (16 - S).toNat = k by omega, Int.natCast_pow]; rfl
  have OR := Lib.hid (fun x y => or16b x y q p hqp ⟨k, by omega, hp.symm⟩)
  have HV := Lib.hid (dn_val hqp hq0 a)
  have HLT := Lib.hid (fun x y (hx : x < 65536) => dn_lt (y := y) hqp hq0 hx)
  have HMD := Lib.hid (fun x => dn_mod (x := x) hqp)
  have S0 : 0 ≤ S := by omega
  have S1 : S ≤ 15 := by omega
  rw [hq]
  have HS := Lib.hid hS
  have HN := Lib.hid hn
  have HA := Lib.hid ha
  have HQP := Lib.hid hqp
  have HB := Lib.hid (show 0 < q ∧ 0 < p ∧ q ≤ 32768 ∧ p ≤ 65536 from ⟨hq0, hp0, hq1, hp1⟩)
  have HQq := Lib.hid hQq
  have HPp := Lib.hid hPp
  have Qn : ¬ Q = 0 := by omega
  have Q0 : 1 ≤ Q := by omega
  have P0 : 1 ≤ P ∧ P ≤ 65536 := by omega
  clear hS hn ha hq hp hqp hq0 hp0 hq1 hp1 hQq hPp hS' hk hs
  go_enter Tryd.func22, Tryd.ntmps22
  go_wp2_with (at_make; refine wpList_make_full _ rfl _ _ 23 rfl w.heap.size 31 i0 (.int .u16 0) 1 Tryd.underlying23 hi iz0 iz1 .i64 .i64 (n : Int) (n : Int) n rfl rfl (by omega) (by omega) (by rw [iz2]; omega) (by unfold maxLen; omega) (Nat.le_refl _) ?_; intro w1 hown1 hgrow1)
  obtain ⟨g, hg⟩ : ∃ g, w.heap.size = g := ⟨_, rfl⟩
  have O1 : OwnA w1 w.heap.size w.heap.size n n (List.replicate n 0) := by
    refine ⟨by simp, ?_⟩
    have e : (madeCells #[Value.int .u16 0] n).toList = (List.replicate n 0).map fun d : Nat => Value.int .u16 (d : Int) := by
      rw [toList_madeCells_one, List.map_replicate]; rfl
    have h := hown1
    rw [show (Value.int .u16 0).cells = #[Value.int .u16 0] from rfl, Nat.mul_one, e] at h
    exact h
  have hw1 : Below w.heap.size w w1 := Below.grown (Below.refl _ _) hgrow1 (Nat.le_refl _) (fun k hk => by cases hk)
  have O1 := Lib.hid (O1.congr (show List.replicate n 0 = kmL (List.replicate n 0) 0 (dnD q p a) 0 from (kmL_zero _ _ _).symm))
  clear hown1 hgrow1 hg
  go_wp2_with fail
  go_loopw [13] (fun i W => ∃ I : Nat, I ≤ n ∧ i = .int .i64 I ∧ OwnA W w.heap.size w.heap.size n n (kmL (List.replicate n 0) 0 (dnD q p a) I) ∧ Below w.heap.size w W) (fun i _ => n - (intOf i).toNat)
  case atStart => exact ⟨0, Nat.zero_le _, rfl, O1.out, hw1⟩
  case round =>
    clear O1 hw1
    obtain ⟨I, hI, rfl, oK, hbw⟩ := hrel
    have hzw := hbw.size
    by_cases hIn : I < n
    · obtain ⟨ax, rfl, hax, hcx⟩ := HS.out.beyond hbw I hIn
      have ck := oK.at I hIn
      have fr := oK.free I
      have rl := oK.lt.2
      have dx := HA.out.getD I
      have dy := HA.out.getD (I + 1)
      have hlt := HLT.out (a.getD I 0) (a.getD (I + 1) 0) dx
      obtain ⟨x, hx⟩ : ∃ x, a.getD I 0 = x := ⟨_, rfl⟩
      obtain ⟨y, hy⟩ : ∃ y, a.getD (I + 1) 0 = y := ⟨_, rfl⟩
      have egx : gi a I = (x : Int) := by unfold gi; rw [hx]
      rw [egx] at hcx
      have hD : dnD q p a I = x / q + (y * p) % 65536 := by unfold dnD; rw [hx, hy]
      obtain ⟨d, hd⟩ : ∃ d, x / q = d := ⟨_, rfl⟩
      rw [hx, hy, hd] at hlt
      rw [hd] at hD
      have e1 : (x : Int) / Q = (d : Int) := by rw [HQq.out, ← hd]; exact (Int.natCast_ediv _ _).symm
      have ST := Lib.hid (fun (W : World) (z : Nat) (o : OwnA W w.heap.size w.heap.size n n (kmL (List.replicate n 0) 0 (dnD q p a) I)) => o.set I z (z : Int) rfl)
      have S2 := Lib.hid (fun (W : World) (z : Nat) (Z : Int) (hZ : Z = ((dnD q p a I : Nat) : Int)) (o : OwnA W w.heap.size w.heap.size n n ((kmL (List.replicate n 0) 0 (dnD q p a) I).set I z)) =>
        (o.set I (dnD q p a I) Z hZ).congr (show ((kmL (List.replicate n 0) 0 (dnD q p a) I).set I z).set I (dnD q p a I) = kmL (List.replicate n 0) 0 (dnD q p a) (I + 1) by
          rw [List.set_set]; have h := kmL_step (l := List.replicate n 0) (j := 0) (i := I) (dnD q p a) (by rw [List.length_replicate]; omega); rw [Nat.zero_add] at h; exact h))
      have hdl : d < 65536 := by omega
      have k2 : (0 : Int) ≤ (I : Int) := by omega
      have xb : (0 : Int) ≤ (x : Int) ∧ (x : Int) ≤ 65535 := by omega
      by_cases hIm : I + 1 < n
      · obtain ⟨ay, hay1, hay, hcy⟩ := HS.out.beyond hbw (I + 1) hIm
        injection hay1 with hay1
        subst hay1
        obtain ⟨ax0, hax1, haxw, _⟩ := HS.out I hIn
        injection hax1 with hax1
        subst hax1
        have egy : gi a (I + 1) = (y : Int) := by unfold gi; rw [hy]
        rw [egy] at hcy
        obtain ⟨pr, hpr⟩ : ∃ pr, y * p = pr := ⟨_, rfl⟩
        have hprb : pr ≤ 65535 * 65536 := by rw [← hpr]; exact Nat.mul_le_mul (by omega) HB.out.2.2.2
        have e2 : (y : Int) * P = (pr : Int) := by rw [HPp.out, ← hpr]; exact (Int.natCast_mul _ _).symm
        have e3 : IntKind.u32.wrap ((y : Int) * P) = (pr : Int) := by rw [e2, IntKind.wrap_u32]; omega
        have e4 : IntKind.u32.wrap (pr : Int) = (pr : Int) := by rw [IntKind.wrap_u32]; omega
        have e5 : IntKind.u32.wrap (y : Int) = (y : Int) := by rw [IntKind.wrap_u32]; omega
        obtain ⟨r, hr⟩ : ∃ r, pr % 65536 = r := ⟨_, rfl⟩
        have e6 : IntKind.u16.wrap (pr : Int) = (r : Int) := by rw [IntKind.wrap_u16, ← hr]; exact (Int.natCast_emod _ _).symm
        have hrm : r % p = 0 := by
          rw [← hr, ← hpr, HMD.out, Nat.mul_mod_left]
        have hdp : d < p := by
          rw [← hd, Nat.div_lt_iff_lt_mul HB.out.1, Nat.mul_comm, HQP.out]; omega
        have e7 : bits .or .u16 (d : Int) (r : Int) = ((dnD q p a I : Nat) : Int) := by
          rw [OR.out (d : Int) (r : Int) (by omega) (by omega) (by omega) (by omega) (by have h := Int.natCast_emod r p; rw [hrm] at h; exact h.symm), hD, hpr, hr]
          rfl
        have k4 : ((I : Int) + 1 < (n : Int)) := by omega
        have k6 : ((I : Int) + 1).toNat = I + 1 := by omega
        obtain ⟨z, hz2⟩ : ∃ z : Int, ((dnD q p a I : Nat) : Int) = z := ⟨_, rfl⟩
        rw [hz2] at e7
        have HZ := Lib.hid hz2
        clear hD hlt hd hx hy egx egy hpr hr hrm hdp hz2
        have oK := Lib.hid oK
        go_upto_region 7 with fail
        have O2 := ST.out _ d oK.out
        have cg := O2.at I hIn
        have eg : gi ((kmL (List.replicate n 0) 0 (dnD q p a) I).set I d) I = (d : Int) := by
          unfold gi
          rw [getD_set _ _ _ _ (by have := oK.out.1; omega), if_pos rfl]
        rw [eg] at cg
        have frg := O2.free I
        have rlg := O2.lt.2
        have hcy2 : (wr.setCell ⟨w.heap.size, I, none⟩ (.int .u16 (d : Int))).cell? (ax.add (I + 1)) = some (.int .u16 (y : Int)) := by
          rw [World.cell?_setCell_other _ _ _ _ (fun e => by have h := congrArg Addr.block e; have h2 : (ax.add (I + 1)).block = ax.block := rfl; rw [h2] at h; have h3 : w.heap.size = ax.block := h; omega)]
          exact hcy
        have hcy3 : (wr.setCell ⟨w.heap.size, I, none⟩ (.int .u16 (d : Int))).cell? ⟨ax.block, ax.off + (I + 1), none⟩ = some (.int .u16 (y : Int)) := hcy2
        have hbw2 : Below w.heap.size w (wr.setCell ⟨w.heap.size, I, none⟩ (.int .u16 (d : Int))) := hbw.setCell (Nat.le_refl _) _
        have O2 := Lib.hid O2
        have oK2 : True := trivial
        clear eg ck fr rl hcx hcy oK hbw ST e1
        generalize wr.setCell ⟨w.heap.size, I, none⟩ (.int .u16 (d : Int)) = W2 at *
        go_region
        have S3 := Lib.hid (S2.out _ d z (by rw [HZ.out]) (O2.out.drewN 1))
        have hb3 : Below w.heap.size w ((W2.drewN 1).setCell ⟨w.heap.size, I, none⟩ (.int .u16 z)) := (below_drewN hbw2 1).setCell (Nat.le_refl _) _
        clear O2 hbw2 S2
        go_wp2_with fail
        go_roundw
        case rel => exact ⟨I + 1, hIn, by go_num, S3.out, hb3⟩
        case measure => first | (simp [intOf]; done) | (simp [intOf]; omega)
      · have k4 : ¬ ((I : Int) + 1 < (n : Int)) := by omega
        have hy0 : y = 0 := by rw [← hy]; exact getD_out (by have := HN.out; omega)
        have hD2 : dnD q p a I = d := by rw [hD, hy0, Nat.zero_mul]; rfl
        have S3 := Lib.hid (S2.out _ d (d : Int) (by rw [hD2]) (ST.out _ d oK))
        have S4 : Hid (OwnA (wr.setCell ⟨w.heap.size, I, none⟩ (.int .u16 (d : Int))) w.heap.size w.heap.size n n (kmL (List.replicate n 0) 0 (dnD q p a) (I + 1))) := Lib.hid ((oK.set I d (d : Int) rfl).congr (by
          have h := kmL_step (l := List.replicate n 0) (j := 0) (i := I) (dnD q p a) (by rw [List.length_replicate]; omega)
          rw [Nat.zero_add, hD2] at h
          exact h))
        have hb3 : Below w.heap.size w (wr.setCell ⟨w.heap.size, I, none⟩ (.int .u16 (d : Int))) := hbw.setCell (Nat.le_refl _) _
        clear hD hlt hd hx hy egx hy0 hD2 S2 ST oK hbw S3
        go_wp2_with fail
        go_roundw
        case rel => exact ⟨I + 1, hIn, by go_num, S4.out, hb3⟩
        case measure => first | (simp [intOf]; done) | (simp [intOf]; omega)
    · obtain rfl : n = I := by omega
      have oE := (oK.congr (show kmL (List.replicate n 0) 0 (dnD q p a) n = (List.range n).map (dnD q p a) by unfold kmL; simp)).toU
      have hdg : DigL ((List.range n).map (dnD q p a)) := DigL.map n _ (fun i _ => by unfold dnD; exact HLT.out _ _ (HA.out.getD i))
      have TR := Lib.hid (bigTrim_own _ _ _ _ oE hdg (by simp; omega))
      have HV2 := HV.out
      rw [HN.out] at HV2
      rw [HV2] at TR
      clear oE oK hdg HV2
      go_wp2_with fail
      with_reducible refine (TR.out).mono ?_
      rintro e w' ⟨rfl, ad', c', rfl, hc', hS'⟩
      have HS' := Lib.hid hS'
      clear hS'
      go_wp2_with fail
      go_ret
      exact ⟨ad', c', rfl, hc', HS'.out, hbw⟩
end Go.Proofs.YtogmmhacjndebaaDoor
