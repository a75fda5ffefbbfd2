/- Contracts of law 8: Fold without a product; few; value. Conditions: as each says. -/
import Derived.Test.YtimgmobpgbekjaaWv8
import Derived.Test.YtimgmobpgbekjaaPol
namespace Go.Proofs.Ytimgmobpgbekjaa
open Go.RowKit
attribute [local irreducible] Fl.K
set_option maxRecDepth 100000 in
set_option maxHeartbeats 1600000 in
theorem fold_bad (ad bd : Option Addr) (n c m d : Nat) (f g : Nat → Int) (w : World) (hS : Sl .i64 w ad n f) (hT : Sl .i64 w bd m g) (hn : n ≤ 1000) (hm : m ≤ 1000) (h : ¬ ((n ≤ 256 ∧ Dig n f) ∧ (m ≤ 256 ∧ Dig m g))) :
    Calls Try.prog 31 #[.slice ad n c, .slice bd m d] w fun e w' => e = .returned (.tuple #[.slice none 0 0, .bool false]) ∧ w = w' := by
  by_cases h1 : n ≤ 256 ∧ Dig n f
  · have D1 := Lib.hid (digits_yes ad n c f w hS h1.1 h1.2)
    have D2 := Lib.hid (digits_no bd m d g w hT hm (fun h2 => h ⟨h1, h2⟩))
    clear h h1 hS hT
    go_enter Try.func31, Try.ntmps31
    go_wp2_with fail
    with_reducible refine (D1.out).mono ?_
    rintro e w' ⟨rfl, rfl⟩
    go_wp2_with fail
    with_reducible refine (D2.out).mono ?_
    rintro e w' ⟨rfl, rfl⟩
    go_wp2_with fail
    refine bodyPost_ret (results_tmp2 rfl _ _ _) rfl ?_
    exact ⟨rfl, rfl⟩
  · have D1 := Lib.hid (digits_no ad n c f w hS hn h1)
    clear h h1 hS hT
    go_enter Try.func31, Try.ntmps31
    go_wp2_with fail
    with_reducible refine (D1.out).mono ?_
    rintro e w' ⟨rfl, rfl⟩
    go_wp2_with fail
    refine bodyPost_ret (results_tmp2 rfl _ _ _) rfl ?_
    exact ⟨rfl, rfl⟩
set_option maxRecDepth 100000 in
set_option maxHeartbeats 1600000 in
theorem fold_empty (ad bd : Option Addr) (n c m d : Nat) (f g : Nat → Int) (w : World) (hS : Sl .i64 w ad n f) (hT : Sl .i64 w bd m g) (hn : n ≤ 256) (hm : m ≤ 256) (hf : Dig n f) (hg : Dig m g) (h : n = 0 ∨ m = 0) :
    Calls Try.prog 31 #[.slice ad n c, .slice bd m d] w fun e w' => e = .returned (.tuple #[.slice none 0 0, .bool true]) ∧ w = w' := by
  have D1 := Lib.hid (digits_yes ad n c f w hS hn hf)
  have D2 := Lib.hid (digits_yes bd m d g w hT hm hg)
  clear hS hT hf hg
  by_cases h0 : n = 0
  · subst h0
    go_enter Try.func31, Try.ntmps31
    go_wp2_with fail
    with_reducible refine (D1.out).mono ?_
    rintro e w' ⟨rfl, rfl⟩
    go_wp2_with fail
    with_reducible refine (D2.out).mono ?_
    rintro e w' ⟨rfl, rfl⟩
    go_wp2_with fail
    refine bodyPost_ret (results_tmp2 rfl _ _ _) rfl ?_
    exact ⟨rfl, rfl⟩
  · have q1 : ((n : Int) == 0) = false := beq_f (by omega)
    have hm0 : m = 0 := by omega
    subst hm0
    clear h
    go_enter Try.func31, Try.ntmps31
    go_wp2_with fail
    with_reducible refine (D1.out).mono ?_
    rintro e w' ⟨rfl, rfl⟩
    go_wp2_with fail
    with_reducible refine (D2.out).mono ?_
    rintro e w' ⟨rfl, rfl⟩
    go_wp2_with fail
    refine bodyPost_ret (results_tmp2 rfl _ _ _) rfl ?_
    exact ⟨rfl, rfl⟩

theorem and15 (k : Int) : bits .and .i64 k 32767 = k % 32768 := by
  have h3 : (BitVec.ofInt 64 32767).toNat = 2 ^ 15 - 1 := by decide
  have key : (BitVec.ofInt 64 k &&& BitVec.ofInt 64 32767).toNat = (k % ((2 ^ 64 : Nat) : Int)).toNat % 2 ^ 15 := by
    rw [BitVec.toNat_and, BitVec.toNat_ofInt, h3, Nat.and_two_pow_sub_one_eq_mod]
  show IntKind.i64.wrap ((BitVec.ofInt 64 k &&& BitVec.ofInt 64 32767).toNat : Nat) = k % 32768
  rw [key, IntKind.wrap_i64]
  omega
/-- A list's numbers, brought to 0 .. 32767. -/
def fw (f : Nat → Int) (t : Nat) : Int := f t % 32768
/-- A slice of n integers h came back. -/
def RetS (h : Nat → Int) (n : Nat) (w : World) (e : Ending) (w' : World) : Prop := ∃ ad c, e = .returned (.slice ad n c) ∧ Sl .i64 w' ad n h ∧ Below w.heap.size w w'
def il (h : Nat → Int) (n : Nat) : List Value := (List.range n).map fun t => Value.int .i64 (h t)
theorem il_succ (h : Nat → Int) (n : Nat) : il h (n + 1) = il h n ++ [.int .i64 (h n)] := by unfold il; rw [List.range_succ, List.map_append]; rfl
theorem retS_of {h : Nat → Int} {n : Nat} {w w' : World} {v : Value} (ho : w'.ownsRow w.heap.size 3 1 v n (il h n)) (hb : Below w.heap.size w w') : RetS h n w (.returned v) w' := by
  by_cases hn : 0 < n
  · obtain ⟨g, c, rfl, _, _, r⟩ := owns_row ho hn (oi h) (fun t ht => by
      rw [Nat.mul_one] at ht
      unfold il
      rw [List.getElem?_map, List.getElem?_range ht]
      rfl)
    rw [Nat.mul_one] at r
    exact ⟨_, c, rfl, row_sl r, hb⟩
  · obtain rfl : n = 0 := by omega
    rcases ho.2 with ⟨rfl, _⟩ | ⟨g, cap, cur, rfl, _⟩
    · exact ⟨none, 0, rfl, Sl.none _ _ _ _, hb⟩
    · exact ⟨_, cap, rfl, Sl.none _ _ _ _, hb⟩
set_option maxRecDepth 100000 in
set_option maxHeartbeats 3200000 in
theorem few_any (ad : Option Addr) (n c : Nat) (f : Nat → Int) (w : World) (hS : Sl .i64 w ad n f) (hn : n ≤ 256) :
    Calls Try.prog 33 #[.slice ad n c] w (RetS (fw f) n w) := by
  obtain ⟨i0, hi, hz0, hz1, hz2⟩ := info_parts info_int
  replace hS := Lib.hid hS
  go_enter Try.func33, Try.ntmps33
  go_wp2_with fail
  go_loopw [3, 4] (fun v i wr => ∃ K : Nat, K ≤ n ∧ i = .int .i64 K ∧ wr.ownsRow w.heap.size 3 1 v K (il (fw f) K) ∧ Below w.heap.size w wr) (fun _ i _ => n - (intOf i).toNat)
  case atStart => exact ⟨0, by omega, rfl, World.ownsRow_nil _ _ _ _, Below.refl _ _⟩
  case round =>
    obtain ⟨K, hK, rfl, hown, hbw⟩ := hrel
    obtain ⟨wo, rfl⟩ : ∃ wo : World, wo = wr := ⟨_, rfl⟩
    have hzo := hbw.size
    by_cases hKn : K < n
    · obtain ⟨a, rfl, hl, hc⟩ := hS.out.beyond hbw K hKn
      have hb := and15 (f K)
      have hblk := Lib.hid (fun k hk => (hown.lt k hk).1)
      have hfw : f K % 32768 = fw f K := rfl
      rw [hfw] at hb
      have il1 := Lib.hid (il_succ (fw f) K)
      replace hown := Lib.hid hown
      generalize fw f K = x at *
      clear hfw
      go_wp2_with (at_builtin; refine wpList_append_own _ rfl _ _ 53 rfl w.heap.size 3 i0 _ 1 8 Try.underlying53 hi hz0 hz1 hz2 rfl (by decide) _ K (il (fw f) K) rfl (hown.out.alloc _) ⟨wo.heap.size, 0, none⟩ 1 1 [.int .i64 x] rfl rfl ?c1 ?c2 ?c3 ?c4 ?c5 ?_)
      case c1 =>
        intro j u hj
        match j, hj with
        | 0, hj => simp at hj; subst hj; simp [Addr.add]
        | j + 1, hj => simp at hj
      case c2 =>
        intro u hu
        simp at hu
        subst hu
        rfl
      case c3 => unfold maxLen; omega
      case c4 => omega
      case c5 => simp; omega
      intro v' w6 hown6 hgrow6 _
      have hw6 : Below w.heap.size w w6 := Below.grown (by repeat' (first | (with_reducible assumption) | (with_reducible exact Below.refl _ _) | (with_reducible refine below_drewN ?_ _) | (with_reducible refine Below.drew ?_) | (with_reducible refine Below.setCell ?_ ?_ _) | (with_reducible refine Below.alloc ?_ ?_ _) | omega | (simp; done) | (simp; omega))) hgrow6 (by simp; omega) (fun k hk => hblk.out k hk)
      rw [← il1.out] at hown6
      clear hgrow6 hown
      replace hown6 := Lib.hid hown6
      go_wp2_with fail
      go_roundw
      case measure => simp [intOf]; omega
      case rel => exact ⟨K + 1, by omega, by go_num, hown6.out, hw6⟩
    · obtain rfl : K = n := by omega
      replace hown := Lib.hid hown
      go_wp2_with fail
      go_ret
      exact retS_of hown.out hbw

set_option maxRecDepth 100000 in
set_option maxHeartbeats 3200000 in
theorem value_any (ad : Option Addr) (n c : Nat) (f : Nat → Int) (x : Int) (w : World) (hS : Sl .i64 w ad n f) (hn : n ≤ 1000) (hf : ∀ i, i < n → 0 ≤ f i ∧ f i ≤ 4503599627370496) :
    Calls Try.prog 34 #[.slice ad n c, .int .u64 x] w fun e w' => e = .returned (.int .u64 (hv f x n n)) ∧ w = w' := by
  replace hS := Lib.hid hS
  replace hf := Lib.hid hf
  go_enter Try.func34, Try.ntmps34
  go_wp2_with fail
  go_loop [5, 6] (fun v i => ∃ J : Nat, J ≤ n ∧ i = .int .i64 ((n : Int) - 1 - J) ∧ v = .int .u64 (hv f x n J)) (fun _ i => (intOf i + 1).toNat)
  case atStart => exact ⟨0, by omega, by go_num, rfl⟩
  case round =>
    obtain ⟨J, hJ, rfl, rfl⟩ := hrel
    have hb := hv_bound f x n J
    by_cases hJn : J < n
    · obtain ⟨a, rfl, hl, hc⟩ := hS.out (n - 1 - J) (by omega)
      obtain ⟨f0, f1⟩ := hf.out (n - 1 - J) (by omega)
      have e1 := Lib.hid (show hv f x n (J + 1) = (hv f x n J * x + f (n - 1 - J)) % 18446744073709551616 from rfl)
      generalize hv f x n J = v at *
      obtain ⟨I, hI⟩ : ∃ I : Nat, n - 1 - J = I := ⟨_, rfl⟩
      have hIe : (n : Int) - 1 - J = (I : Int) := by omega
      rw [hI] at hc f0 f1 e1
      rw [hIe]
      generalize f I = y at *
      have k0 : (0 : Int) ≤ (I : Int) := by omega
      have k1 : (I : Int) < (n : Int) := by omega
      go_wp2_with fail
      go_round
      case rel => exact ⟨J + 1, by omega, by go_num, by rw [e1.out]; show Value.int .u64 (IntKind.u64.wrap (IntKind.u64.wrap (v * x) + y)) = _; rw [IntKind.wrap_u64, IntKind.wrap_u64, hv_step]⟩
      case measure => first | (simp [intOf]; done) | (simp [intOf]; omega)
    · obtain rfl : J = n := by omega
      go_wp2_with fail
      go_ret
      exact ⟨rfl, rfl⟩
end Go.Proofs.Ytimgmobpgbekjaa
