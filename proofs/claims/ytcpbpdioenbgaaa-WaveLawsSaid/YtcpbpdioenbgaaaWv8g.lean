/- Contracts of law 8: Fold without a product; few; value. Conditions: as each says. -/
import Derived.Test.YtcpbpdioenbgaaaWv8
import Derived.Test.YtcpbpdioenbgaaaPol
namespace Go.Proofs.Ytcpbpdioenbgaaa
open Go.RowKit
set_option linter.unusedSimpArgs false
set_option linter.unusedVariables false
attribute [local irreducible] Fl.K
theorem and15 (k : Int) : bits .and .i64 k 32767 = k % 32768 := by
  have h3 : (BitVec.ofInt 64 32767).toNat = 2 ^ 15 - 1 := by decide
  have key : (BitVec.ofInt 64 k &&& BitVec.ofInt 64 32767).toNat = (k % ((2 ^ 64 : Nat) : Int)).toNat % 2 ^ 15 := by
    rw [BitVec.toNat_and, BitVec.toNat_ofInt, h3, Nat.and_two_pow_sub_one_eq_mod]
  show IntKind.i64.wrap ((BitVec.ofInt 64 k &&& BitVec.ofInt 64 32767).toNat : Nat) = k % 32768
  rw [key, IntKind.wrap_i64]
  omega
/-- A list's numbers, brought to 0 .. 32767. -/
def fw (f : Nat → Int) (t : Nat) : Int := f t % 32768
/-- A slice of n integers h came back. -/
def RetS (h : Nat → Int) (n : Nat) (w : World) (e : Ending) (w' : World) : Prop := ∃ ad c, e = .returned (.slice ad n c) ∧ Sl .i64 w' ad n h ∧ Below w.heap.size w w'
def il (h : Nat → Int) (n : Nat) : List Value := (List.range n).map fun t => Value.int .i64 (h t)
theorem il_succ (h : Nat → Int) (n : Nat) : il h (n + 1) = il h n ++ [.int .i64 (h n)] := by unfold il; rw [List.range_succ, List.map_append]; rfl
theorem retS_of {h : Nat → Int} {n : Nat} {w w' : World} {v : Value} (ho : w'.ownsRow w.heap.size 3 1 v n (il h n)) (hb : Below w.heap.size w w') : RetS h n w (.returned v) w' := by
  by_cases hn : 0 < n
  · obtain ⟨g, c, rfl, _, _, r⟩ := owns_row ho hn (oi h) (fun t ht => by
      rw [Nat.mul_one] at ht
      unfold il
      rw [List.getElem?_map, List.getElem?_range ht]
      rfl)
    rw [Nat.mul_one] at r
    exact ⟨_, c, rfl, row_sl r, hb⟩
  · obtain rfl : n = 0 := by omega
    rcases ho.2 with ⟨rfl, _⟩ | ⟨g, cap, cur, rfl, _⟩
    · exact ⟨none, 0, rfl, Sl.none _ _ _ _, hb⟩
    · exact ⟨_, cap, rfl, Sl.none _ _ _ _, hb⟩
set_option maxRecDepth 100000 in
set_option maxHeartbeats 3200000 in
theorem few_any (ad : Option Addr) (n c : Nat) (f : Nat → Int) (w : World) (hS : Sl .i64 w ad n f) (hn : n ≤ 256) :
    Calls Try.prog 5 #[.slice ad n c] w (RetS (fw f) n w) := by
  obtain ⟨i0, hi, hz0, hz1, hz2⟩ := info_parts info_int
  replace hS := Lib.hid hS
  go_enter Try.func5, Try.ntmps5
  go_wp2_with fail
  go_loopw [3, 4] (fun v i wr => ∃ K : Nat, K ≤ n ∧ i = .int .i64 K ∧ wr.ownsRow w.heap.size 3 1 v K (il (fw f) K) ∧ Below w.heap.size w wr) (fun _ i _ => n - (intOf i).toNat)
  case atStart => exact ⟨0, by omega, rfl, World.ownsRow_nil _ _ _ _, Below.refl _ _⟩
  case round =>
    obtain ⟨K, hK, rfl, hown, hbw⟩ := hrel
    obtain ⟨wo, rfl⟩ : ∃ wo : World, wo = wr := ⟨_, rfl⟩
    have hzo := hbw.size
    by_cases hKn : K < n
    · obtain ⟨a, rfl, hl, hc⟩ := hS.out.beyond hbw K hKn
      have hb := and15 (f K)
      have hblk := Lib.hid (fun k hk => (hown.lt k hk).1)
      have hfw : f K % 32768 = fw f K := rfl
      rw [hfw] at hb
      have il1 := Lib.hid (il_succ (fw f) K)
      replace hown := Lib.hid hown
      generalize fw f K = x at *
      clear hfw
      go_wp2_with (at_builtin; refine wpList_append_own _ rfl _ _ 22 rfl w.heap.size 3 i0 _ 1 8 Try.underlying22 hi hz0 hz1 hz2 rfl (by decide) _ K (il (fw f) K) rfl (hown.out.alloc _) ⟨wo.heap.size, 0, none⟩ 1 1 [.int .i64 x] rfl rfl ?c1 ?c2 ?c3 ?c4 ?c5 ?_)
      case c1 =>
        intro j u hj
        match j, hj with
        | 0, hj => simp at hj; subst hj; simp [Addr.add]
        | j + 1, hj => simp at hj
      case c2 =>
        intro u hu
        simp at hu
        subst hu
        rfl
      case c3 => unfold maxLen; omega
      case c4 => omega
      case c5 => simp; omega
      intro v' w6 hown6 hgrow6 _
      have hw6 : Below w.heap.size w w6 := Below.grown (by repeat' (first | (with_reducible assumption) | (with_reducible exact Below.refl _ _) | (with_reducible refine below_drewN ?_ _) | (with_reducible refine Below.drew ?_) | (with_reducible refine Below.setCell ?_ ?_ _) | (with_reducible refine Below.alloc ?_ ?_ _) | omega | (simp; done) | (simp; omega))) hgrow6 (by simp; omega) (fun k hk => hblk.out k hk)
      rw [← il1.out] at hown6
      clear hgrow6 hown
      replace hown6 := Lib.hid hown6
      go_wp2_with fail
      go_roundw
      case measure => simp [intOf]; omega
      case rel => exact ⟨K + 1, by omega, by go_num, hown6.out, hw6⟩
    · obtain rfl : K = n := by omega
      replace hown := Lib.hid hown
      go_wp2_with fail
      go_ret
      exact retS_of hown.out hbw

end Go.Proofs.Ytcpbpdioenbgaaa
