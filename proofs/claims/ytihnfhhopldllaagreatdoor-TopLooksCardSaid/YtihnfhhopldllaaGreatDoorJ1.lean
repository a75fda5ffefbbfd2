/- Parts of the proof of TopLooks: Aid, M1, M2, Go, U0. No condition. -/
import Derived.WalkKit
import Derived.WalkSpells
import Derived.WalkLawsBesides
import Derived.Lib.Hide
import Derived.KernelRfl
import Derived.Deep.QuietTactic
import Derived.BigQuiet
import Derived.Handy
import Derived.Deep.RegionWith
import Derived.Deep.DeepFit
import Derived.Deep.RegionHeld3
import Derived.Deep.DeepCutAuto
import Derived.Deep.CutBlock
import Derived.Deep.LoopGhost
import Derived.Deep.AppendLies
import Derived.Deep.MidRow
import Derived.ScopeJumps
import Derived.Outline
import Derived.Lib.ConvBytes
import Derived.Deep.WholeRow
import Derived.Deep.RegionHeldLaw
import Derived.Deep.Onto
import Derived.Lib.AppendStr
import Derived.Lib.BufferRead
import Derived.Laws.OwnMore
import Derived.Laws.AppendOwn
import Derived.Tactics
import Derived.ChangeSame
import Derived.OpenShut
import Derived.Carry
import Derived.SliceStrings
import Derived.Handed
import Derived.ShapedOpen
import Derived.Lib.SmallJoins
import Derived.Test.YtihnfhhopldllaaGreatDoorProg
namespace Go.Proofs.YtihnfhhopldllaaGreatDoor
set_option linter.unusedSimpArgs false
set_option linter.unusedVariables false
set_option maxHeartbeats 6400000
set_option maxRecDepth 100000
section
open Go.RowKit
theorem beq_t {a b : Int} (h : a = b) : (a == b) = true := beq_iff_eq.2 h
theorem beq_f {a b : Int} (h : ¬ a = b) : (a == b) = false := beq_eq_false_iff_ne.2 h
theorem bel {B : Nat} {w W : World} (h : Below B w W := by repeat' (first | (with_reducible assumption) | (with_reducible exact Below.refl _ _) | (with_reducible refine below_drewN ?_ _) | (with_reducible refine Below.drew ?_) | (with_reducible refine Below.setCell ?_ ?_ _) | (with_reducible refine Below.alloc ?_ ?_ _) | omega | (simp; done) | (simp; omega))) : Below B w W := h
theorem cB {w w' : World} {B : Nat} (hb : Below B w w') (b o : Nat) (v : Value) (hl : b < B := by first | assumption | (simp; done) | (simp; omega)) (hc : w.cell? ⟨b, o, none⟩ = some v := by first | assumption | (exact Lib.cell?_alloc_some _ (by assumption)) | (exact Lib.cell?_alloc_some _ (Lib.cell?_alloc_some _ (by assumption))) | (simp [go_sem]; done) | (simp [go_sem, *]; done)) : w'.cell? ⟨b, o, none⟩ = some v := (hb.cell (p := ⟨b, o, none⟩) hl).trans hc
theorem fB {w w' : World} {B : Nat} (hb : Below B w w') (b o : Nat) (hl : b < B := by first | assumption | (simp; done) | (simp; omega)) (hc : w.frozen? ⟨b, o, none⟩ = false := by first | assumption | (simp [go_sem]; done) | (simp [go_sem, *]; done) | (exact (((Below.refl _ _).alloc (Nat.le_refl _) _).alloc (by simp) _).frozen (by dsimp only; omega) |>.trans (by assumption))) : w'.frozen? ⟨b, o, none⟩ = false := (hb.frozen (p := ⟨b, o, none⟩) hl).trans hc
theorem cT {w w' : World} {B b o : Nat} {v : Value} (hb : Below B w w') (hc : w.cell? ⟨b, o, none⟩ = some v) (hl : b < B := by first | assumption | omega | (simp; omega)) : w'.cell? ⟨b, o, none⟩ = some v := (hb.cell (p := ⟨b, o, none⟩) hl).trans hc
theorem fT {w w' : World} {B b o : Nat} (hb : Below B w w') (hc : w.frozen? ⟨b, o, none⟩ = false) (hl : b < B := by first | assumption | omega | (simp; omega)) : w'.frozen? ⟨b, o, none⟩ = false := (hb.frozen (p := ⟨b, o, none⟩) hl).trans hc
theorem cX {x y : World} (hx : x = y) (b o : Nat) (v : Value) (hc : y.cell? ⟨b, o, none⟩ = some v := by simp [go_sem]) : x.cell? ⟨b, o, none⟩ = some v := hx ▸ hc
theorem fX {x y : World} (hx : x = y) (b o : Nat) (hc : y.frozen? ⟨b, o, none⟩ = false := by simp [go_sem]) : x.frozen? ⟨b, o, none⟩ = false := hx ▸ hc
theorem gC {w w' : World} {g : Nat} (h : w.grownBy w' (some g)) (b o : Nat) (v : Value) (hl : b < w.heap.size := by first | with_reducible assumption | omega | (simp; done) | (simp; omega)) (hn : b ≠ g := by omega) (hc : w.cell? ⟨b, o, none⟩ = some v := by first | with_reducible assumption | (simp [go_sem]; done) | (simp [go_sem, *]; done) | assumption) : w'.cell? ⟨b, o, none⟩ = some v := (World.cell?_of_block (a := ⟨b, o, none⟩) (h.block b hl (fun e => hn (Option.some.inj e)))).trans hc
theorem gF {w w' : World} {g : Nat} (h : w.grownBy w' (some g)) (b o : Nat) (hl : b < w.heap.size := by first | with_reducible assumption | omega | (simp; done) | (simp; omega)) (hn : b ≠ g := by omega) (hc : w.frozen? ⟨b, o, none⟩ = false := by first | with_reducible assumption | (simp [go_sem]; done) | (simp [go_sem, *]; done) | assumption) : w'.frozen? ⟨b, o, none⟩ = false := (World.frozen?_of_block (a := ⟨b, o, none⟩) (h.block b hl (fun e => hn (Option.some.inj e)))).trans hc
theorem hC {w w' : World} {g b o : Nat} {v : Value} (h : w.grownBy w' (some g)) (hc : w.cell? ⟨b, o, none⟩ = some v) (hl : b < w.heap.size := by first | with_reducible assumption | omega | (simp; done) | (simp; omega)) (hn : b ≠ g := by omega) : w'.cell? ⟨b, o, none⟩ = some v := gC h b o v hl hn hc
theorem hF {w w' : World} {g b o : Nat} (h : w.grownBy w' (some g)) (hc : w.frozen? ⟨b, o, none⟩ = false) (hl : b < w.heap.size := by first | with_reducible assumption | omega | (simp; done) | (simp; omega)) (hn : b ≠ g := by omega) : w'.frozen? ⟨b, o, none⟩ = false := gF h b o hl hn hc
theorem rC {w w' : World} {row : Option Nat} (h : w.grownBy w' row) (b o : Nat) (v : Value) (hn : row ≠ some b) (hl : b < w.heap.size := by first | with_reducible assumption | omega | (simp; done) | (simp; omega)) (hc : w.cell? ⟨b, o, none⟩ = some v := by first | with_reducible assumption | (simp [go_sem]; done) | (simp [go_sem, *]; done) | assumption) : w'.cell? ⟨b, o, none⟩ = some v := (World.cell?_of_block (a := ⟨b, o, none⟩) (h.block b hl (fun e => hn e.symm))).trans hc
theorem rF {w w' : World} {row : Option Nat} (h : w.grownBy w' row) (b o : Nat) (hn : row ≠ some b) (hl : b < w.heap.size := by first | with_reducible assumption | omega | (simp; done) | (simp; omega)) (hc : w.frozen? ⟨b, o, none⟩ = false := by first | with_reducible assumption | (simp [go_sem]; done) | (simp [go_sem, *]; done) | assumption) : w'.frozen? ⟨b, o, none⟩ = false := (World.frozen?_of_block (a := ⟨b, o, none⟩) (h.block b hl (fun e => hn e.symm))).trans hc
theorem cf {w w' : World} {B : Nat} (hb : Below B w w') (b o : Nat) (v : Value) (hl : b < B := by first | assumption | (simp; done) | (simp; omega)) (hc : w.cell? ⟨b, o, none⟩ = some v := by first | assumption | (exact Lib.cell?_alloc_some _ (by assumption)) | (exact Lib.cell?_alloc_some _ (Lib.cell?_alloc_some _ (by assumption))) | (simp [go_sem]; done) | (simp [go_sem, *]; done)) (hf : w.frozen? ⟨b, o, none⟩ = false := by first | assumption | (simp [go_sem]; done) | (simp [go_sem, *]; done) | (exact (((Below.refl _ _).alloc (Nat.le_refl _) _).alloc (by simp) _).frozen (by dsimp only; omega) |>.trans (by assumption))) : w'.cell? ⟨b, o, none⟩ = some v ∧ w'.frozen? ⟨b, o, none⟩ = false := ⟨(hb.cell (p := ⟨b, o, none⟩) hl).trans hc, (hb.frozen (p := ⟨b, o, none⟩) hl).trans hf⟩
theorem cfG {w w' : World} {g : Nat} (h : w.grownBy w' (some g)) (b o : Nat) (v : Value) (hl : b < w.heap.size := by first | with_reducible assumption | omega | (simp; done) | (simp; omega)) (hn : b ≠ g := by omega) (hc : w.cell? ⟨b, o, none⟩ = some v := by first | with_reducible assumption | (simp [go_sem]; done) | (simp [go_sem, *]; done) | assumption) (hf : w.frozen? ⟨b, o, none⟩ = false := by first | with_reducible assumption | (simp [go_sem]; done) | (simp [go_sem, *]; done) | assumption) : w'.cell? ⟨b, o, none⟩ = some v ∧ w'.frozen? ⟨b, o, none⟩ = false := ⟨gC h b o v hl hn hc, gF h b o hl hn hf⟩
theorem cfR {w w' : World} {row : Option Nat} (h : w.grownBy w' row) (b o : Nat) (v : Value) (hn : row ≠ some b) (hl : b < w.heap.size := by first | with_reducible assumption | omega | (simp; done) | (simp; omega)) (hc : w.cell? ⟨b, o, none⟩ = some v := by first | with_reducible assumption | (simp [go_sem]; done) | (simp [go_sem, *]; done) | assumption) (hf : w.frozen? ⟨b, o, none⟩ = false := by first | with_reducible assumption | (simp [go_sem]; done) | (simp [go_sem, *]; done) | assumption) : w'.cell? ⟨b, o, none⟩ = some v ∧ w'.frozen? ⟨b, o, none⟩ = false := ⟨rC h b o v hn hl hc, rF h b o hn hl hf⟩
theorem cfT {w w' : World} {B b o : Nat} {v : Value} (hb : Below B w w') (hc : w.cell? ⟨b, o, none⟩ = some v) (hf : w.frozen? ⟨b, o, none⟩ = false) (hl : b < B := by first | assumption | omega | (simp; omega)) : w'.cell? ⟨b, o, none⟩ = some v ∧ w'.frozen? ⟨b, o, none⟩ = false := ⟨cT hb hc hl, fT hb hf hl⟩
theorem evl {a : Act} {s : Operand} {v : Value} (h : a.eval s = v := by first | rfl | (simp [Act.eval, Act.put]; done)) : a.eval s = v := h
theorem ltB {w w' : World} {B : Nat} (hb : Below B w w') (b : Nat) (h : b < w.heap.size := by first | assumption | omega | (simp; done) | (simp; omega)) : b < w'.heap.size := Nat.lt_of_lt_of_le h hb.size
theorem bwB {v w' : World} {C : Nat} (hb : Below C v w') (B : Nat) (w : World) (h1 : Below B w v := by repeat' (first | (with_reducible assumption) | (with_reducible exact Below.refl _ _) | (with_reducible refine below_drewN ?_ _) | (with_reducible refine Below.drew ?_) | (with_reducible refine Below.setCell ?_ ?_ _) | (with_reducible refine Below.alloc ?_ ?_ _) | omega | (simp; done) | (simp; omega))) (h2 : B ≤ C := by first | assumption | omega | (simp; done) | (simp; omega)) : Below B w w' := Below.trans h1 (hb.mono h2)
end
section
def cls (c : Nat) : Option (Nat × Nat × Nat) := if 192 ≤ c ∧ c < 224 then some (c % 32, 1, 128) else if 224 ≤ c ∧ c < 240 then some (c % 16, 2, 2048) else if 240 ≤ c ∧ c < 248 then some (c % 8, 3, 65536) else none
def moreR : Nat → Nat → List UInt8 → Option Nat
  | 0, r, _ => some r
  | _ + 1, _, [] => none
  | m + 1, r, x :: l => if 128 ≤ x.toNat ∧ x.toNat < 192 then moreR m (r * 64 + x.toNat % 64) l else none
def isR (r : Nat) : Prop := r ≤ 1114111 ∧ (r < 55296 ∨ 57343 < r)
instance (r : Nat) : Decidable (isR r) := by unfold isR; infer_instance
def chr : List UInt8 → Nat × Nat
  | [] => (0, 0)
  | x :: l => if x.toNat < 128 then (x.toNat, 1) else match cls x.toNat with
    | none => (0, 0)
    | some (r, m, least) => match moreR m r l with
      | none => (0, 0)
      | some r => if least ≤ r ∧ isR r then (r, m + 1) else (0, 0)
theorem moreR_len : ∀ {m r : Nat} {l : List UInt8} {r' : Nat}, moreR m r l = some r' → m ≤ l.length
  | 0, _, _, _, _ => Nat.zero_le _
  | m + 1, r, [], _, h => by simp [moreR] at h
  | m + 1, r, x :: l, _, h => by
    unfold moreR at h
    split at h
    · have := moreR_len h; simp; omega
    · cases h
theorem moreR_app : ∀ {m r : Nat} {l : List UInt8} (k : List UInt8), m ≤ l.length → moreR m r (l ++ k) = moreR m r l
  | 0, _, _, _, _ => by simp [moreR]
  | m + 1, r, [], _, h => by simp at h
  | m + 1, r, x :: l, k, h => by
    simp only [List.cons_append, moreR]
    split
    · exact moreR_app k (by simp at h; omega)
    · rfl
theorem cls_le {c r m t : Nat} (h : cls c = some (r, m, t)) : 1 ≤ m ∧ m ≤ 3 ∧ 192 ≤ c := by
  unfold cls at h
  split at h
  · injection h with h; injection h with _ h; injection h with h _; omega
  · split at h
    · injection h with h; injection h with _ h; injection h with h _; omega
    · split at h
      · injection h with h; injection h with _ h; injection h with h _; omega
      · cases h
theorem chr_cons (x : UInt8) (l : List UInt8) : chr (x :: l) = if x.toNat < 128 then (x.toNat, 1) else match cls x.toNat with
    | none => (0, 0)
    | some (r, m, least) => match moreR m r l with
      | none => (0, 0)
      | some r => if least ≤ r ∧ isR r then (r, m + 1) else (0, 0) := rfl
theorem chr_le (l : List UInt8) : (chr l).2 ≤ l.length ∧ (chr l).2 ≤ 4 := by
  cases l with
  | nil => simp [chr]
  | cons x l =>
    rw [chr_cons]
    split
    · simp
    · cases hc : cls x.toNat with
      | none => simp
      | some q =>
        obtain ⟨r, m, t⟩ := q
        have hm := cls_le hc
        cases hr : moreR m r l with
        | none => simp [hr]
        | some r' =>
          have := moreR_len hr
          simp only [hr]
          split
          · simp; omega
          · simp
theorem chr_app {l : List UInt8} (h : 0 < (chr l).2) (k : List UInt8) : chr (l ++ k) = chr l := by
  cases l with
  | nil => simp [chr] at h
  | cons x l =>
    rw [List.cons_append]
    rw [chr_cons] at h ⊢
    rw [chr_cons]
    by_cases hx : x.toNat < 128
    · rw [if_pos hx, if_pos hx]
    · rw [if_neg hx] at h
      rw [if_neg hx, if_neg hx]
      cases hc : cls x.toNat with
      | none => rfl
      | some q =>
        obtain ⟨r, m, t⟩ := q
        rw [hc] at h
        cases hr : moreR m r l with
        | none => simp [hr] at h
        | some r' =>
          have hl := moreR_len hr
          simp only
          rw [moreR_app k hl, hr]
theorem chr_take {l : List UInt8} {n : Nat} (hn : (chr l).2 ≤ n) (h : 0 < (chr l).2) : chr (l.take n) = chr l := by
  cases l with
  | nil => simp
  | cons x l =>
    cases n with
    | zero => omega
    | succ n =>
      rw [List.take_succ_cons]
      rw [chr_cons] at h hn ⊢
      rw [chr_cons]
      by_cases hx : x.toNat < 128
      · rw [if_pos hx, if_pos hx]
      · rw [if_neg hx] at h hn
        rw [if_neg hx, if_neg hx]
        cases hc : cls x.toNat with
        | none => rfl
        | some q =>
          obtain ⟨r, m, t⟩ := q
          rw [hc] at h hn
          cases hr : moreR m r l with
          | none => simp [hr] at h
          | some r' =>
            have hl := moreR_len hr
            simp only [hr] at h hn
            have hmn : m ≤ n := by
              split at h <;> rename_i hq
              · rw [if_pos hq] at hn; simp at hn; omega
              · simp at h
            simp only
            have e := moreR_app (m := m) (r := r) (l := l.take n) (l.drop n) (by rw [List.length_take]; omega)
            rw [List.take_append_drop, hr] at e
            rw [← e, hr]
def lk : Nat → List UInt8 → Nat
  | 0, _ => 0
  | f + 1, l => if (chr l).2 = 0 then 0 else (chr l).2 + lk f (l.drop (chr l).2)
def lookL (l : List UInt8) : Nat := lk l.length l
theorem lk_le : ∀ (f : Nat) (l : List UInt8), lk f l ≤ l.length
  | 0, l => Nat.zero_le _
  | f + 1, l => by
    unfold lk
    split
    · exact Nat.zero_le _
    · have := lk_le f (l.drop (chr l).2)
      have h := (chr_le l).1
      rw [List.length_drop] at this
      omega
theorem lk_stable : ∀ (f g : Nat) (l : List UInt8), l.length ≤ f → l.length ≤ g → lk f l = lk g l
  | 0, g, l, h, _ => by
    have : l = [] := List.length_eq_zero_iff.1 (by omega)
    subst this
    cases g <;> simp [lk, chr]
  | f + 1, 0, l, _, h => by
    have : l = [] := List.length_eq_zero_iff.1 (by omega)
    subst this
    simp [lk, chr]
  | f + 1, g + 1, l, hf, hg => by
    unfold lk
    by_cases h0 : (chr l).2 = 0
    · rw [if_pos h0, if_pos h0]
    · rw [if_neg h0, if_neg h0, lk_stable f g (l.drop (chr l).2) (by rw [List.length_drop]; omega) (by rw [List.length_drop]; omega)]
theorem lookL_stop {l : List UInt8} (h : (chr l).2 = 0) : lookL l = 0 := by
  unfold lookL
  cases l.length with
  | zero => rfl
  | succ f => unfold lk; rw [if_pos h]
theorem lookL_step {l : List UInt8} (h : (chr l).2 ≠ 0) : lookL l = (chr l).2 + lookL (l.drop (chr l).2) := by
  have hl := (chr_le l).1
  have e : l.length = (l.length - 1) + 1 := by omega
  unfold lookL
  rw [e]
  show (if (chr l).2 = 0 then 0 else _) = _
  rw [if_neg h, lk_stable (l.length - 1) (l.drop (chr l).2).length _ (by rw [List.length_drop]; omega) (Nat.le_refl _)]
theorem lookL_le (l : List UInt8) : lookL l ≤ l.length := lk_le _ _
def Wh (l : List UInt8) : Prop := lookL l = l.length
instance (l : List UInt8) : Decidable (Wh l) := by unfold Wh; infer_instance
theorem wh_nil : Wh [] := rfl
theorem wh_step {l : List UInt8} (hl : l ≠ []) (h : Wh l) : (chr l).2 ≠ 0 ∧ Wh (l.drop (chr l).2) := by
  have h0 : (chr l).2 ≠ 0 := fun h0 => by
    unfold Wh at h
    rw [lookL_stop h0] at h
    exact hl (List.length_eq_zero_iff.1 h.symm)
  refine ⟨h0, ?_⟩
  unfold Wh at h ⊢
  rw [lookL_step h0] at h
  rw [List.length_drop]
  omega
theorem wh_of_step {l : List UInt8} (h0 : (chr l).2 ≠ 0) (h : Wh (l.drop (chr l).2)) : Wh l := by
  have hl := (chr_le l).1
  unfold Wh at h ⊢
  rw [lookL_step h0, h, List.length_drop]
  omega
theorem chr_ascii {x : UInt8} (l : List UInt8) (h : x.toNat < 128) : chr (x :: l) = (x.toNat, 1) := by simp [chr, h]
theorem wh_ascii {x : UInt8} {l : List UInt8} (h : x.toNat < 128) : Wh (x :: l) ↔ Wh l := by
  have e := chr_ascii l h
  constructor
  · intro hw
    have := (wh_step (by simp) hw).2
    rw [e] at this
    exact this
  · intro hw
    refine wh_of_step (by rw [e]; simp) ?_
    rw [e]
    exact hw
theorem moreR_high : ∀ {m r : Nat} {l : List UInt8} {r' : Nat}, moreR m r l = some r' → ∀ i, i < m → ∃ x, l[i]? = some x ∧ 128 ≤ x.toNat
  | 0, _, _, _, _, i, hi => by omega
  | m + 1, r, [], _, h, _, _ => by simp [moreR] at h
  | m + 1, r, x :: l, _, h, i, hi => by
    unfold moreR at h
    split at h
    · rename_i hx
      cases i with
      | zero => exact ⟨x, rfl, hx.1⟩
      | succ i => exact moreR_high h i (by omega)
    · cases h
theorem chr_high {l : List UInt8} (h : 2 ≤ (chr l).2) : ∀ i, i < (chr l).2 → ∃ x, l[i]? = some x ∧ 128 ≤ x.toNat := by
  cases l with
  | nil => simp [chr] at h
  | cons x l =>
    rw [chr_cons] at h ⊢
    by_cases hx : x.toNat < 128
    · rw [if_pos hx] at h; simp at h
    · rw [if_neg hx] at h ⊢
      cases hc : cls x.toNat with
      | none => simp [hc] at h
      | some q =>
        obtain ⟨r, m, t⟩ := q
        rw [hc] at h
        cases hr : moreR m r l with
        | none => simp [hr] at h
        | some r' =>
          simp only [hr] at h ⊢
          split
          · intro i hi
            cases i with
            | zero => exact ⟨x, rfl, by omega⟩
            | succ i =>
              simp at hi
              exact moreR_high hr i hi
          · intro i hi; simp at hi
end
section
open Go.RowKit
structure Own where
  kind : Int := 0
  bits : Int := 0
  high : Int := 0
  low : Int := 0
  sub : Int := 0
  text : List UInt8 := []
  more : List UInt8 := []
  bytes : List UInt8 := []
inductive Ro where
  | mk (o : Own) (kids : List (List UInt8 × Ro))
def Ro.o : Ro → Own | .mk o _ => o
def Ro.kids : Ro → List (List UInt8 × Ro) | .mk _ l => l
@[simp] theorem Ro.o_mk (o : Own) (l : List (List UInt8 × Ro)) : (Ro.mk o l).o = o := rfl
@[simp] theorem Ro.kids_mk (o : Own) (l : List (List UInt8 × Ro)) : (Ro.mk o l).kids = l := rfl
def bs (t : List UInt8) : ByteArray := ⟨t.toArray⟩
theorem bs_list (t : List UInt8) : (bs t).data.toList = t := rfl
theorem bs_size (t : List UInt8) : (bs t).size = t.length := by simp [bs, ByteArray.size]
theorem bs_inj {s t : List UInt8} (h : bs s = bs t) : s = t := by
  have := congrArg (fun b : ByteArray => b.data.toList) h
  exact this
theorem bs_of (s : ByteArray) : bs s.data.toList = s := by cases s; rfl
inductive Lay where
  | V
  | J
  | I
def Lay.wid : Lay → Nat | .V => 10 | .J => 4 | .I => 5
def Lay.cells : Lay → Own → Value → Value → List Value
  | .V, t, bv, s => [.int .i64 t.kind, .int .u64 t.bits, .int .u64 t.high, .int .u64 t.low, .string (bs t.text), .string (bs t.more), .int .i64 t.sub, bv, s]
  | .J, t, _, s => [.int .i64 t.kind, .string (bs t.text), s]
  | .I, t, bv, s => [.int .i64 t.kind, .int .u64 t.bits, bv, .string (bs t.text), s]
def Lay.row : Lay → List UInt8 → Own → Value → Value → List Value
  | .V, nm, t, bv, s => .string (bs nm) :: Lay.cells .V t bv s
  | .J, nm, t, bv, s => .string (bs nm) :: Lay.cells .J t bv s
  | .I, _, t, bv, s => Lay.cells .I t bv s
theorem Lay.row_length (L : Lay) (nm : List UInt8) (t : Own) (bv s : Value) : (L.row nm t bv s).length = L.wid := by cases L <;> rfl
def By (Q : Nat → Prop) (w : World) (l : List UInt8) (v : Value) : Prop :=
  ∃ ad c, v = .slice ad l.length c ∧ (l = [] ∨ ∃ b o, ad = some ⟨b, o, none⟩ ∧ Q b ∧ b < w.heap.size ∧ w.rangeAt b o (l.map fun x => .int .u8 (x.toNat : Int)))
def Lay.by' (L : Lay) (Q : Nat → Prop) (w : World) (o : Own) (v : Value) : Prop := match L with
  | .J => True
  | _ => By Q w o.bytes v
theorem By.nil (Q : Nat → Prop) (w : World) : By Q w [] (.slice none 0 0) := ⟨none, 0, rfl, .inl rfl⟩
def Kd (L : Lay) (Q : Nat → Prop) (w : World) : Nat → List (List UInt8 × Ro) → Value → Prop
  | 0, l, v => l = [] ∧ ∃ ad c, v = .slice ad 0 c
  | k + 1, l, v => ∃ ad c, v = .slice ad l.length c ∧ ∀ i nm x, l[i]? = some (nm, x) → ∃ b o bv s, ad = some ⟨b, o, none⟩ ∧ Q b ∧ b < w.heap.size ∧ w.rangeAt b (o + L.wid * i) (L.row nm x.o bv s) ∧ L.by' Q w x.o bv ∧ Kd L Q w k x.kids s
def Is (L : Lay) (Q : Nat → Prop) (w : World) (k : Nat) (t : Ro) (v : Value) : Prop := ∃ bv s, v = .agg (L.cells t.o bv s).toArray ∧ L.by' Q w t.o bv ∧ Kd L Q w k t.kids s
theorem Kd.slice {L : Lay} {Q : Nat → Prop} {w : World} {k : Nat} {l : List (List UInt8 × Ro)} {v : Value} (h : Kd L Q w k l v) : ∃ ad c, v = .slice ad l.length c := by
  cases k with
  | zero => obtain ⟨rfl, ad, c, rfl⟩ := h; exact ⟨ad, c, rfl⟩
  | succ k => obtain ⟨ad, c, rfl, _⟩ := h; exact ⟨ad, c, rfl⟩
theorem Kd.nil (L : Lay) (Q : Nat → Prop) (w : World) (k : Nat) (ad : Option Addr) (c : Nat) : Kd L Q w k [] (.slice ad 0 c) := by
  cases k with
  | zero => exact ⟨rfl, ad, c, rfl⟩
  | succ k => exact ⟨ad, c, rfl, fun i nm x h => by simp at h⟩
theorem Kd.at {L : Lay} {Q : Nat → Prop} {w : World} {k : Nat} {l : List (List UInt8 × Ro)} {ad : Option Addr} {n c : Nat} (h : Kd L Q w (k + 1) l (.slice ad n c)) {i : Nat} {nm : List UInt8} {x : Ro} (hi : l[i]? = some (nm, x)) :
    ∃ b o bv s, ad = some ⟨b, o, none⟩ ∧ Q b ∧ b < w.heap.size ∧ w.rangeAt b (o + L.wid * i) (L.row nm x.o bv s) ∧ L.by' Q w x.o bv ∧ Kd L Q w k x.kids s := by
  obtain ⟨ad', c', hv, h⟩ := h
  injection hv with h1 h2 h3
  subst h1
  exact h i nm x hi
def Keeps (Q : Nat → Prop) (w w' : World) : Prop := w.heap.size ≤ w'.heap.size ∧ ∀ b, Q b → b < w.heap.size → w'.heap[b]? = w.heap[b]?
theorem Keeps.refl (Q : Nat → Prop) (w : World) : Keeps Q w w := ⟨Nat.le_refl _, fun _ _ _ => rfl⟩
theorem Keeps.trans {Q : Nat → Prop} {a b c : World} (h : Keeps Q a b) (g : Keeps Q b c) : Keeps Q a c :=
  ⟨Nat.le_trans h.1 g.1, fun k hk hl => (g.2 k hk (Nat.lt_of_lt_of_le hl h.1)).trans (h.2 k hk hl)⟩
theorem Keeps.below {Q : Nat → Prop} {B : Nat} {w w' : World} (hb : Below B w w') (h : ∀ b, Q b → b < w.heap.size → b < B) : Keeps Q w w' := ⟨hb.size, fun b hq hl => hb.block b (h b hq hl)⟩
theorem Keeps.beyond {Q : Nat → Prop} {w w' : World} (hb : Below w.heap.size w w') : Keeps Q w w' := Keeps.below hb (fun _ _ h => h)
theorem Keeps.setCell {Q : Nat → Prop} {w : World} {p : Addr} (h : ¬ Q p.block) (u : Value) : Keeps Q w (w.setCell p u) :=
  ⟨by simp [World.setCell], fun b hq _ => Below.heap_setCell _ _ _ _ (fun e => h (e ▸ hq))⟩
theorem Keeps.alloc {Q : Nat → Prop} (w : World) (o : Obj) : Keeps Q w (w.alloc o) := Keeps.beyond ((Below.refl _ _).alloc (Nat.le_refl _) o)
theorem Keeps.mono {Q Q' : Nat → Prop} {w w' : World} (h : Keeps Q w w') (hq : ∀ b, Q' b → Q b) : Keeps Q' w w' := ⟨h.1, fun b hb hl => h.2 b (hq b hb) hl⟩
theorem Keeps.drewN {Q : Nat → Prop} (w : World) (n : Nat) : Keeps Q w (w.drewN n) := ⟨Nat.le_refl _, fun _ _ _ => rfl⟩
theorem rangeAt_block {w w' : World} {b o : Nat} {cs : List Value} (h : w'.heap[b]? = w.heap[b]?) (hr : w.rangeAt b o cs) : w'.rangeAt b o cs := fun j v hv => by
  rw [World.cell?_of_block (w := w) (w' := w') (a := ⟨b, o + j, none⟩) h]
  exact hr j v hv
theorem By.keeps {Q : Nat → Prop} {w w' : World} (hk : Keeps Q w w') {l : List UInt8} {v : Value} (h : By Q w l v) : By Q w' l v := by
  obtain ⟨ad, c, hv, h⟩ := h
  refine ⟨ad, c, hv, h.imp_right ?_⟩
  rintro ⟨b, o, h1, h2, h3, h4⟩
  exact ⟨b, o, h1, h2, Nat.lt_of_lt_of_le h3 hk.1, rangeAt_block (hk.2 b h2 h3) h4⟩
theorem Lay.by'_keeps {L : Lay} {Q : Nat → Prop} {w w' : World} (hk : Keeps Q w w') {o : Own} {v : Value} (h : L.by' Q w o v) : L.by' Q w' o v := by
  cases L with
  | J => exact True.intro
  | V => exact By.keeps hk h
  | I => exact By.keeps hk h
theorem By.mono {Q Q' : Nat → Prop} {w : World} (hq : ∀ b, Q b → b < w.heap.size → Q' b) {l : List UInt8} {v : Value} (h : By Q w l v) : By Q' w l v := by
  obtain ⟨ad, c, hv, h⟩ := h
  refine ⟨ad, c, hv, h.imp_right ?_⟩
  rintro ⟨b, o, h1, h2, h3, h4⟩
  exact ⟨b, o, h1, hq b h2 h3, h3, h4⟩
theorem Lay.by'_mono {L : Lay} {Q Q' : Nat → Prop} {w : World} (hq : ∀ b, Q b → b < w.heap.size → Q' b) {o : Own} {v : Value} (h : L.by' Q w o v) : L.by' Q' w o v := by
  cases L with
  | J => exact True.intro
  | V => exact By.mono hq h
  | I => exact By.mono hq h
theorem Kd.keeps {L : Lay} {Q : Nat → Prop} {w w' : World} (hk : Keeps Q w w') : ∀ {k : Nat} {l : List (List UInt8 × Ro)} {v : Value}, Kd L Q w k l v → Kd L Q w' k l v
  | 0, _, _, h => h
  | k + 1, l, v, ⟨ad, c, hv, h⟩ => ⟨ad, c, hv, fun i nm x hi => by
    obtain ⟨b, o, bv, s, h1, h2, h3, h4, h5, h6⟩ := h i nm x hi
    exact ⟨b, o, bv, s, h1, h2, Nat.lt_of_lt_of_le h3 hk.1, rangeAt_block (hk.2 b h2 h3) h4, Lay.by'_keeps hk h5, Kd.keeps hk h6⟩⟩
theorem Kd.beyond {L : Lay} {Q : Nat → Prop} {w w' : World} {k : Nat} {l : List (List UInt8 × Ro)} {v : Value} (h : Kd L Q w k l v) (hb : Below w.heap.size w w') : Kd L Q w' k l v := h.keeps (Keeps.beyond hb)
theorem Kd.mono {L : Lay} {Q Q' : Nat → Prop} {w : World} (hq : ∀ b, Q b → b < w.heap.size → Q' b) : ∀ {k : Nat} {l : List (List UInt8 × Ro)} {v : Value}, Kd L Q w k l v → Kd L Q' w k l v
  | 0, _, _, h => h
  | k + 1, l, v, ⟨ad, c, hv, h⟩ => ⟨ad, c, hv, fun i nm x hi => by
    obtain ⟨b, o, bv, s, h1, h2, h3, h4, h5, h6⟩ := h i nm x hi
    exact ⟨b, o, bv, s, h1, hq b h2 h3, h3, h4, Lay.by'_mono hq h5, Kd.mono hq h6⟩⟩
theorem Kd.more {L : Lay} {Q : Nat → Prop} {w : World} : ∀ {k k' : Nat} {l : List (List UInt8 × Ro)} {v : Value}, k ≤ k' → Kd L Q w k l v → Kd L Q w k' l v
  | 0, k', l, v, _, ⟨e, ad, c, hv⟩ => by subst e hv; exact Kd.nil L Q w k' ad c
  | k + 1, 0, _, _, h, _ => by omega
  | k + 1, k' + 1, l, v, hk, ⟨ad, c, hv, h⟩ => ⟨ad, c, hv, fun i nm x hi => by
    obtain ⟨b, o, bv, s, h1, h2, h3, h4, h5, h6⟩ := h i nm x hi
    exact ⟨b, o, bv, s, h1, h2, h3, h4, h5, Kd.more (by omega) h6⟩⟩
theorem Is.keeps {L : Lay} {Q : Nat → Prop} {w w' : World} {k : Nat} {t : Ro} {v : Value} (h : Is L Q w k t v) (hk : Keeps Q w w') : Is L Q w' k t v := by
  obtain ⟨bv, s, h1, h2, h3⟩ := h
  exact ⟨bv, s, h1, Lay.by'_keeps hk h2, h3.keeps hk⟩
theorem Is.beyond {L : Lay} {Q : Nat → Prop} {w w' : World} {k : Nat} {t : Ro} {v : Value} (h : Is L Q w k t v) (hb : Below w.heap.size w w') : Is L Q w' k t v := h.keeps (Keeps.beyond hb)
theorem Is.mono {L : Lay} {Q Q' : Nat → Prop} {w : World} {k : Nat} {t : Ro} {v : Value} (h : Is L Q w k t v) (hq : ∀ b, Q b → b < w.heap.size → Q' b) : Is L Q' w k t v := by
  obtain ⟨bv, s, h1, h2, h3⟩ := h
  exact ⟨bv, s, h1, Lay.by'_mono hq h2, h3.mono hq⟩
theorem Is.more {L : Lay} {Q : Nat → Prop} {w : World} {k k' : Nat} {t : Ro} {v : Value} (h : Is L Q w k t v) (hk : k ≤ k') : Is L Q w k' t v := by
  obtain ⟨bv, s, h1, h2, h3⟩ := h
  exact ⟨bv, s, h1, h2, h3.more hk⟩
def flat (L : Lay) : List (List UInt8 × Ro) → List (Value × Value) → List Value
  | (nm, x) :: l, s :: ss => L.row nm x.o s.1 s.2 ++ flat L l ss
  | _, _ => []
theorem flat_snoc (L : Lay) : ∀ (l : List (List UInt8 × Ro)) (ss : List (Value × Value)) (nm : List UInt8) (x : Ro) (s : Value × Value), ss.length = l.length → flat L (l ++ [(nm, x)]) (ss ++ [s]) = flat L l ss ++ L.row nm x.o s.1 s.2
  | [], [], nm, x, s, _ => by simp [flat]
  | [], _ :: _, _, _, _, h => by simp at h
  | (_, _) :: _, [], _, _, _, h => by simp at h
  | (n0, x0) :: l, s0 :: ss, nm, x, s, h => by
    simp only [flat, List.cons_append, flat_snoc L l ss nm x s (by simpa using h), List.append_assoc]
theorem flat_at (L : Lay) : ∀ (l : List (List UInt8 × Ro)) (ss : List (Value × Value)) (i : Nat) (nm : List UInt8) (x : Ro) (s : Value × Value), l[i]? = some (nm, x) → ss[i]? = some s → ∀ j v, (L.row nm x.o s.1 s.2)[j]? = some v → (flat L l ss)[L.wid * i + j]? = some v
  | [], _, i, _, _, _, h, _, _, _, _ => by simp at h
  | (_, _) :: _, [], i, _, _, _, _, h, _, _, _ => by simp at h
  | (n0, x0) :: l, s0 :: ss, 0, nm, x, s, h1, h2, j, v, hv => by
    simp at h1 h2
    obtain ⟨rfl, rfl⟩ := h1
    subst h2
    simp only [flat, Nat.mul_zero, Nat.zero_add]
    rw [List.getElem?_append_left (by exact (List.getElem?_eq_some_iff.1 hv).1)]
    exact hv
  | (n0, x0) :: l, s0 :: ss, i + 1, nm, x, s, h1, h2, j, v, hv => by
    simp only [flat]
    rw [List.getElem?_append_right (by rw [Lay.row_length, Nat.mul_add]; omega), Lay.row_length, show L.wid * (i + 1) + j - L.wid = L.wid * i + j by rw [Nat.mul_add]; omega]
    exact flat_at L l ss i nm x s (by simpa using h1) (by simpa using h2) j v hv
def Bd (L : Lay) (T : TypeId) (w : World) (base k : Nat) (l : List (List UInt8 × Ro)) (v : Value) : Prop :=
  ∃ ss, ss.length = l.length ∧ w.ownsRow base T L.wid v l.length (flat L l ss) ∧ ∀ (i : Nat) (nm : List UInt8) (x : Ro) (s : Value × Value), l[i]? = some (nm, x) → ss[i]? = some s → L.by' (fun b => base ≤ b ∧ v.ownBlock ≠ some b) w x.o s.1 ∧ Kd L (fun b => base ≤ b ∧ v.ownBlock ≠ some b) w k x.kids s.2
theorem Bd.nil (L : Lay) (T : TypeId) (w : World) (base k : Nat) : Bd L T w base k [] (.slice none 0 0) := ⟨[], rfl, World.ownsRow_nil _ _ _ _, fun i nm x s h => by simp at h⟩
theorem Bd.lt {L : Lay} {T : TypeId} {w : World} {base k : Nat} {l : List (List UInt8 × Ro)} {v : Value} (h : Bd L T w base k l v) : ∀ g, v.ownBlock = some g → base ≤ g ∧ g < w.heap.size := by
  obtain ⟨ss, _, h2, _⟩ := h
  exact World.ownsRow.lt h2
theorem ownsRow_keeps {w w' : World} {base : Nat} {e : TypeId} {size : Nat} {v : Value} {n : Nat} {xs : List Value} (h : w.ownsRow base e size v n xs) (hk : ∀ g, v.ownBlock = some g → w'.heap[g]? = w.heap[g]?) : w'.ownsRow base e size v n xs := by
  obtain ⟨h1, h2⟩ := h
  refine ⟨h1, ?_⟩
  rcases h2 with h2 | ⟨g, cap, cur, hv, hg, hh, r⟩
  · exact Or.inl h2
  · exact Or.inr ⟨g, cap, cur, hv, hg, by rw [hk g (by subst hv; rfl)]; exact hh, r⟩
theorem Bd.keeps {L : Lay} {T : TypeId} {w w' : World} {base k : Nat} {l : List (List UInt8 × Ro)} {v : Value} (h : Bd L T w base k l v) (hk : Keeps (fun b => base ≤ b) w w') : Bd L T w' base k l v := by
  obtain ⟨ss, h1, h2, h3⟩ := h
  refine ⟨ss, h1, ownsRow_keeps h2 (fun g hg => ?_), fun i nm x s hi hs => ⟨Lay.by'_keeps (hk.mono (fun b hb => hb.1)) (h3 i nm x s hi hs).1, (h3 i nm x s hi hs).2.keeps (hk.mono (fun b hb => hb.1))⟩⟩
  have := World.ownsRow.lt h2 g hg
  exact hk.2 g this.1 this.2
theorem Bd.beyond {L : Lay} {T : TypeId} {w w' : World} {base k : Nat} {l : List (List UInt8 × Ro)} {v : Value} (h : Bd L T w base k l v) (hb : Below w.heap.size w w') : Bd L T w' base k l v := h.keeps (Keeps.beyond hb)
theorem Bd.set {L : Lay} {T : TypeId} {w : World} {base k : Nat} {l : List (List UInt8 × Ro)} {v : Value} (h : Bd L T w base k l v) {p : Addr} (hp : p.block < base) (u : Value) : Bd L T (w.setCell p u) base k l v := h.keeps (Keeps.setCell (by omega) u)
theorem Bd.more {L : Lay} {T : TypeId} {w : World} {base k k' : Nat} {l : List (List UInt8 × Ro)} {v : Value} (h : Bd L T w base k l v) (hk : k ≤ k') : Bd L T w base k' l v := by
  obtain ⟨ss, h1, h2, h3⟩ := h
  exact ⟨ss, h1, h2, fun i nm x s hi hs => ⟨(h3 i nm x s hi hs).1, (h3 i nm x s hi hs).2.more hk⟩⟩
theorem grown_key {w w' : World} {base : Nat} {v v' : Value} (hgrow : w.grownBy w' v.ownBlock) (hat : ∀ g, v'.ownBlock = some g → v.ownBlock = some g ∨ g = w.heap.size) :
    Keeps (fun b => (base ≤ b ∧ v.ownBlock ≠ some b) ∧ b < w.heap.size) w w' ∧ ∀ b, ((base ≤ b ∧ v.ownBlock ≠ some b) ∧ b < w.heap.size) → base ≤ b ∧ v'.ownBlock ≠ some b := by
  refine ⟨⟨hgrow.size, fun b hb hl => hgrow.block b hl (fun e => hb.1.2 e.symm)⟩, fun b hb => ⟨hb.1.1, fun e => ?_⟩⟩
  rcases hat b e with h | h
  · exact hb.1.2 h
  · omega
theorem Bd.snoc {L : Lay} {T : TypeId} {w w' : World} {base k : Nat} {l : List (List UInt8 × Ro)} {v v' : Value} {ss : List (Value × Value)} {nm : List UInt8} {x : Ro} {s : Value × Value} (hl : ss.length = l.length)
    (h3 : ∀ (i : Nat) (nm : List UInt8) (x : Ro) (s : Value × Value), l[i]? = some (nm, x) → ss[i]? = some s → L.by' (fun b => base ≤ b ∧ v.ownBlock ≠ some b) w x.o s.1 ∧ Kd L (fun b => base ≤ b ∧ v.ownBlock ≠ some b) w k x.kids s.2)
    (hy : L.by' (fun b => base ≤ b ∧ v.ownBlock ≠ some b) w x.o s.1) (hx : Kd L (fun b => base ≤ b ∧ v.ownBlock ≠ some b) w k x.kids s.2)
    (hown : w'.ownsRow base T L.wid v' (l.length + 1) (flat L l ss ++ L.row nm x.o s.1 s.2)) (hgrow : w.grownBy w' v.ownBlock) (hat : ∀ g, v'.ownBlock = some g → v.ownBlock = some g ∨ g = w.heap.size) :
    Bd L T w' base k (l ++ [(nm, x)]) v' := by
  obtain ⟨hk, hq⟩ := grown_key (base := base) hgrow hat
  have key : ∀ {l0 : List (List UInt8 × Ro)} {s0 : Value}, Kd L (fun b => base ≤ b ∧ v.ownBlock ≠ some b) w k l0 s0 → Kd L (fun b => base ≤ b ∧ v'.ownBlock ≠ some b) w' k l0 s0 := fun h0 =>
    ((h0.mono (fun b hb hl => ⟨hb, hl⟩)).keeps hk).mono (fun b hb _ => hq b hb)
  have keyb : ∀ {o0 : Own} {s0 : Value}, L.by' (fun b => base ≤ b ∧ v.ownBlock ≠ some b) w o0 s0 → L.by' (fun b => base ≤ b ∧ v'.ownBlock ≠ some b) w' o0 s0 := fun h0 =>
    Lay.by'_mono (fun b hb _ => hq b hb) (Lay.by'_keeps hk (Lay.by'_mono (fun b hb hl => ⟨hb, hl⟩) h0))
  refine ⟨ss ++ [s], by simp [hl], ?_, fun i nm' x' s' hi hs => ?_⟩
  · rw [flat_snoc L l ss nm x s hl, List.length_append, List.length_singleton]
    exact hown
  · rcases Nat.lt_or_ge i l.length with hlt | hge
    · rw [List.getElem?_append_left hlt] at hi
      rw [List.getElem?_append_left (by omega)] at hs
      exact ⟨keyb (h3 i nm' x' s' hi hs).1, key (h3 i nm' x' s' hi hs).2⟩
    · have e : i = l.length := by
        have := (List.getElem?_eq_some_iff.1 hi).1
        simp at this
        omega
      subst e
      rw [List.getElem?_append_right (Nat.le_refl _)] at hi
      rw [List.getElem?_append_right (by omega)] at hs
      simp at hi
      simp [hl] at hs
      obtain ⟨rfl, rfl⟩ := hi
      subst hs
      exact ⟨keyb hy, key hx⟩
theorem Bd.done {L : Lay} {T : TypeId} {w : World} {base k : Nat} {l : List (List UInt8 × Ro)} {v : Value} (h : Bd L T w base k l v) : Kd L (fun b => base ≤ b) w (k + 1) l v := by
  obtain ⟨ss, h1, h2, h3⟩ := h
  have h2' := h2
  rcases h2.2 with ⟨rfl, h0⟩ | ⟨g, cap, cur, rfl, hb, hg, _⟩
  · have e : l = [] := List.length_eq_zero_iff.1 h0
    subst e
    exact Kd.nil _ _ _ _ _ _
  · refine ⟨_, _, rfl, fun i nm x hi => ?_⟩
    have hlt : i < l.length := (List.getElem?_eq_some_iff.1 hi).1
    obtain ⟨s, hs⟩ : ∃ s, ss[i]? = some s := ⟨ss[i]'(by omega), List.getElem?_eq_getElem _⟩
    refine ⟨g, 0, s.1, s.2, rfl, hb, (Array.getElem?_eq_some_iff.1 hg).1, fun j v hv => ?_, Lay.by'_mono (fun b hb _ => hb.1) (h3 i nm x s hi hs).1, (h3 i nm x s hi hs).2.mono (fun b hb _ => hb.1)⟩
    have := World.ownsRow.cells h2' (g := g) rfl (L.wid * i + j) v (flat_at L l ss i nm x s hi hs j v hv)
    rw [Addr.add_mid, Nat.zero_add] at this
    rw [Nat.zero_add]
    exact this
end
section
def jumps (J : Nat → Act → World → Prop) (Q : Exit → Act → World → Prop) : Exit → Act → World → Prop
  | .goto l, a, w => J l a w
  | e, a, w => Q e a w
theorem jumps_ret {J : Nat → Act → World → Prop} {Q : Exit → Act → World → Prop} {a : Act} {w : World} (h : Q .ret a w) : jumps J Q .ret a w := h
def Fr (a : Act) (F : (Nat → Value) → Array Value) : Prop := a = { tmps := F (fun i => a.tmps.getD i undef), defers := [] }
theorem Fr.ex {a : Act} {F : (Nat → Value) → Array Value} (h : Fr a F) : ∃ f, a = { tmps := F f, defers := [] } := ⟨_, h⟩
section
variable {P : Program} {a : Act} {w : World} {Q : Exit → Act → World → Prop}
theorem wp_scope_all {c : Code} (J : Nat → Act → World → Prop) (μ : Nat → Act → World → Nat)
    (first : c.wp P (jumps J Q) a w)
    (pass : ∀ l a w, J l a w → ∃ rest, findLabel c l = some rest ∧ rest.wp P (jumps (fun l' a' w' => J l' a' w' ∧ μ l' a' w' < μ l a w) Q) a w) : (Code.scope c).wp P Q a w := by
  intro b k cs
  have key : ∀ n l a w, μ l a w = n → J l a w → ∃ rest, findLabel c l = some rest ∧ ∃ e a' w', Q e a' w' ∧ Arrives P (lone (b.at a (.code rest :: .inScope c :: k)) cs w) b k cs e a' w' := by
    intro n
    induction n using Nat.strongRecOn with
    | _ n ih =>
      intro l a w hn hJ
      obtain ⟨rest, hf, hp⟩ := pass l a w hJ
      refine ⟨rest, hf, ?_⟩
      obtain ⟨e, a₁, w₁, hq, harr⟩ := hp b (.inScope c :: k) cs
      cases e with
      | normal => exact ⟨.normal, a₁, w₁, hq, Steps.trans harr (.one step_inScope)⟩
      | exit id => exact ⟨.exit id, a₁, w₁, hq, fun k' hk => harr k' (by simp [exitTo, hk])⟩
      | goto l' =>
        obtain ⟨hJ', hlt⟩ := hq
        obtain ⟨rest', hf', e₂, a₂, w₂, hq₂, harr₂⟩ := ih _ (by omega) l' a₁ w₁ rfl hJ'
        exact ⟨e₂, a₂, w₂, hq₂, .of_steps (harr _ (by simp [gotoIn, hf'])) harr₂⟩
      | ret => exact ⟨_, a₁, w₁, hq, harr⟩
      | panic ch => exact ⟨_, a₁, w₁, hq, harr⟩
      | outgrown => exact ⟨_, a₁, w₁, hq, harr⟩
  obtain ⟨e, a₁, w₁, hq, harr⟩ := first b (.inScope c :: k) cs
  cases e with
  | normal => exact ⟨.normal, a₁, w₁, hq, .head step_scope (Steps.trans harr (.one step_inScope))⟩
  | exit id => exact ⟨.exit id, a₁, w₁, hq, fun k' hk => .head step_scope (harr k' (by simp [exitTo, hk]))⟩
  | goto l' =>
    obtain ⟨rest', hf', e₂, a₂, w₂, hq₂, harr₂⟩ := key _ l' a₁ w₁ rfl hq
    exact ⟨e₂, a₂, w₂, hq₂, .of_steps (.head step_scope (harr _ (by simp [gotoIn, hf']))) harr₂⟩
  | ret => exact ⟨_, a₁, w₁, hq, .of_steps (.one step_scope) harr⟩
  | panic ch => exact ⟨_, a₁, w₁, hq, .of_steps (.one step_scope) harr⟩
  | outgrown => exact ⟨_, a₁, w₁, hq, .of_steps (.one step_scope) harr⟩
end
end
section
open Go.RowKit
theorem is_any (r : Int) (w : World) : Calls Tryz.prog 309 #[.int .i64 r] w fun e w' => e = .returned (.bool (decide (0 ≤ r ∧ r ≤ 1114111 ∧ (r < 55296 ∨ 57343 < r)))) ∧ w = w' := by
  have key : ∀ b, b = decide (0 ≤ r ∧ r ≤ 1114111 ∧ (r < 55296 ∨ 57343 < r)) → Calls Tryz.prog 309 #[.int .i64 r] w fun e w' => e = .returned (.bool b) ∧ w = w' := fun b hb => by
    by_cases h1 : 0 ≤ r
    · by_cases h2 : r ≤ 1114111
      · by_cases h3 : r < 55296
        · have e : b = true := by rw [hb]; simp; omega
          subst e
          clear hb
          go_enter Tryz.func309, Tryz.ntmps309
          go_wp2_with fail
          go_ret
          exact ⟨rfl, rfl⟩
        · by_cases h4 : 57343 < r
          · have e : b = true := by rw [hb]; simp; omega
            subst e
            clear hb
            go_enter Tryz.func309, Tryz.ntmps309
            go_wp2_with fail
            go_ret
            exact ⟨rfl, rfl⟩
          · have e : b = false := by rw [hb]; simp; omega
            subst e
            clear hb
            go_enter Tryz.func309, Tryz.ntmps309
            go_wp2_with fail
            go_ret
            exact ⟨rfl, rfl⟩
      · have e : b = false := by rw [hb]; simp; omega
        subst e
        clear hb
        go_enter Tryz.func309, Tryz.ntmps309
        go_wp2_with fail
        go_ret
        exact ⟨rfl, rfl⟩
    · have e : b = false := by rw [hb]; simp; omega
      subst e
      clear hb
      go_enter Tryz.func309, Tryz.ntmps309
      go_wp2_with fail
      go_ret
      exact ⟨rfl, rfl⟩
  exact key _ rfl
end
end Go.Proofs.YtihnfhhopldllaaGreatDoor
