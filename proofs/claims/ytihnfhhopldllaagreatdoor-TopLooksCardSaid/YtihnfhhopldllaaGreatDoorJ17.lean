/- Parts of the proof of TopLooks: U41. No condition. -/
import Derived.Test.YtihnfhhopldllaaGreatDoorJ1
import Derived.Test.YtihnfhhopldllaaGreatDoorJ15
import Derived.Test.YtihnfhhopldllaaGreatDoorJ16
namespace Go.Proofs.YtihnfhhopldllaaGreatDoor
set_option linter.unusedSimpArgs false
set_option linter.unusedVariables false
set_option maxHeartbeats 6400000
set_option maxRecDepth 100000
section
open Go.RowKit
def lenOf : Value → Nat
  | .slice _ n _ => n
  | _ => 0
theorem keeps_set {Q : Nat → Prop} {w W : World} (h : Keeps Q w W) {p : Addr} (hp : (¬ Q p.block) ∨ w.heap.size ≤ p.block) (u : Value) : Keeps Q w (W.setCell p u) :=
  ⟨by simp [World.setCell]; exact h.1, fun b hq hl => by
    rw [heap_setCell_other W p b u (fun e => by
      rcases hp with hp | hp
      · exact hp (e ▸ hq)
      · omega)]
    exact h.2 b hq hl⟩
theorem keeps_alloc {Q : Nat → Prop} {w W : World} (h : Keeps Q w W) (o : Obj) : Keeps Q w (W.alloc o) := h.trans (Keeps.alloc W o)
theorem keeps_drew {Q : Nat → Prop} {w W : World} (h : Keeps Q w W) : Keeps Q w W.drew := h
theorem keeps_row {Q : Nat → Prop} {w W W' : World} {g : Nat} (h : Keeps Q w W) (hg : W.grownBy W' (some g)) (hq : ¬ Q g) : Keeps Q w W' := h.trans (keeps_grown hg (fun b hb _ e => by injection e with e; exact hq (e ▸ hb)))
theorem below_row {B : Nat} {W w7 : World} {row : Option Nat} (h : W.grownBy w7 row) (hB : B ≤ W.heap.size) (hr : ∀ k, row = some k → B ≤ k) : Below B W w7 := Below.grown (Below.refl _ _) h hB hr
theorem grown_row {w W w7 : World} {row : Option Nat} {g : Nat} (h : w.grownBy W (some g)) (hg : W.grownBy w7 row) (hr : ∀ k, row = some k → w.heap.size ≤ k) : w.grownBy w7 (some g) :=
  ⟨hg.os.trans h.os, hg.tape.trans h.tape, hg.output.trans h.output, Nat.le_trans h.size hg.size, fun k hk hk2 => (hg.block k (Nat.lt_of_lt_of_le hk h.size) (fun e => by have := hr k e.symm; omega)).trans (h.block k hk hk2)⟩
theorem Prs.below {W w7 : World} {B g : Nat} {T : ByteArray} {p : Nat} {D : Int} (h : Prs W g T p D) (hb : Below B W w7) (hg : g < B) : Prs w7 g T p D := (hb.block g hg).trans h
theorem own_len {w : World} {B size n n' : Nat} {e : TypeId} {v : Value} {xs : List Value} (h : n = n') (ho : w.ownsRow B e size v n xs) : w.ownsRow B e size v n' xs := h ▸ ho
theorem bd_put {L : Lay} {T : TypeId} {wr W w7 : World} {base k : Nat} {l : List (List UInt8 × Ro)} {v v' : Value} {ss : List (Value × Value)} {nm : List UInt8} {x : Ro} {s : Value × Value} (hl : ss.length = l.length)
    (h3 : ∀ (i : Nat) (nm : List UInt8) (x : Ro) (s : Value × Value), l[i]? = some (nm, x) → ss[i]? = some s → L.by' (fun b => base ≤ b ∧ v.ownBlock ≠ some b) wr x.o s.1 ∧ Kd L (fun b => base ≤ b ∧ v.ownBlock ≠ some b) wr k x.kids s.2)
    (hK : Keeps (fun b => base ≤ b) wr W) (hy : L.by' (fun b => base ≤ b ∧ v.ownBlock ≠ some b) W x.o s.1) (hx : Kd L (fun b => base ≤ b ∧ v.ownBlock ≠ some b) W k x.kids s.2)
    (hown : w7.ownsRow base T L.wid v' (l.length + 1) (flat L l ss ++ L.row nm x.o s.1 s.2)) (hgrow : W.grownBy w7 v.ownBlock) (hat : ∀ g, v'.ownBlock = some g → v.ownBlock = some g ∨ g = W.heap.size) :
    Bd L T w7 base k (l ++ [(nm, x)]) v' :=
  Bd.snoc hl (fun i nm x s hi hs => ⟨Lay.by'_keeps (hK.mono (fun b hb => hb.1)) (h3 i nm x s hi hs).1, (h3 i nm x s hi hs).2.keeps (hK.mono (fun b hb => hb.1))⟩) hy hx hown hgrow hat
def PVal (T : ByteArray) (k : Nat) (j : Ro) : Prop := ∀ (p : Nat) (Z : List UInt8), At T p (prJ k j ++ Z) → ∀ (g : Nat) (D wi : Int) (w : World), Prs w g T (tokE j p) D → 0 ≤ wi → wi + k ≤ D → D ≤ 1000 →
  Calls Tryz.prog 69 #[.pointer (some ⟨g, 0, none⟩), .agg #[.int .i64 (tokK j), .int .i64 p, .int .i64 (tokE j p : Nat), .string (bs j.o.text)], .int .i64 wi] w fun e w' => (∃ v, e = .returned (.tuple #[v, .agg #[.int .i64 0, .int .i64 0, .slice none 0 0]]) ∧ Is .J (fun b => w.heap.size ≤ b) w' k j v) ∧ Prs w' g T (p + (prJ k j).length) D ∧ w.grownBy w' (some g)
theorem nx_first {T : ByteArray} (hT : T.size ≤ 1000000) {k : Nat} {j : Ro} (hj : Jq k j) {p : Nat} {Z : List UInt8} (h : At T p (prJ k j ++ Z)) : Nx T p (tokK j) (tokE j p) (bs j.o.text) := by
  have str : ∀ x : List UInt8, x.length ≤ 200 → Wh x → j = jS x → Nx T p (tokK j) (tokE j p) (bs j.o.text) := fun x h1 h2 e => by
    subst e
    rw [prJ_jS] at h
    exact fun w => next_str T hT p x Z h1 h2 h w
  cases k with
  | zero => obtain ⟨x, h1, h2, e⟩ := hj; exact str x h1 h2 e
  | succ k =>
    rcases hj with ⟨x, h1, h2, e⟩ | ⟨l, hl, ⟨rfl, _⟩ | ⟨rfl, _⟩⟩
    · exact str x h1 h2 e
    · rw [prJ_jO] at h
      exact fun w => next_123 T hT p _ h w
    · rw [prJ_jA] at h
      exact fun w => next_91 T hT p _ h w
def KsO (T : ByteArray) (Z : List UInt8) (l : KL) (k : Nat) (w : World) (g : Nat) (D : Int) (B K q q1 : Nat) (nm : ByteArray) (V : Value) (wr : World) : Prop :=
  ∃ x, l[K]? = some x ∧ At T q (itO k x ++ tl (itO k) (l.drop (K + 1)) 125 Z) ∧ q1 = q + (quote x.1).length ∧ bs x.1 = nm ∧ Prs wr g T q1 D ∧ Bd .J 166 wr B k (l.take K) V ∧ w.grownBy wr (some g) ∧ B ≤ wr.heap.size
def KsA (T : ByteArray) (Z : List UInt8) (l : KL) (k : Nat) (w : World) (g : Nat) (D : Int) (B K q q1 : Nat) (kd : Int) (nm : ByteArray) (V : Value) (wr : World) : Prop :=
  ∃ x, l[K]? = some x ∧ At T q (itA k x ++ tl (itA k) (l.drop (K + 1)) 93 Z) ∧ tokK x.2 = kd ∧ q1 = tokE x.2 q ∧ bs x.2.o.text = nm ∧ Prs wr g T q1 D ∧ Bd .J 166 wr B k (l.take K) V ∧ w.grownBy wr (some g) ∧ B ≤ wr.heap.size
end
end Go.Proofs.YtihnfhhopldllaaGreatDoor
