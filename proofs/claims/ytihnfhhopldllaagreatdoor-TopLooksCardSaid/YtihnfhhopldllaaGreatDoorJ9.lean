/- Parts of the proof of TopLooks: U57, M6, M7, U34, U35, U32, U33, U46, U47, M5, U22, Pb, App, Cu, M8, Post, Sl, Back. No condition. -/
import Derived.Test.YtihnfhhopldllaaGreatDoorJ1
import Derived.Test.YtihnfhhopldllaaGreatDoorJ10
import Derived.Test.YtihnfhhopldllaaGreatDoorJ3
import Derived.Test.YtihnfhhopldllaaGreatDoorJ5
import Derived.Test.YtihnfhhopldllaaGreatDoorJ7
namespace Go.Proofs.YtihnfhhopldllaaGreatDoor
set_option linter.unusedSimpArgs false
set_option linter.unusedVariables false
set_option maxHeartbeats 6400000
set_option maxRecDepth 100000
section
open Go.RowKit
theorem sum_take {α : Type} (f : α → Nat) : ∀ {l : List α} {K : Nat} {x : α}, l[K]? = some x → ((l.take (K + 1)).map f).sum = ((l.take K).map f).sum + f x ∧ ((l.take (K + 1)).map f).sum ≤ (l.map f).sum
  | [], K, x, h => by cases h
  | y :: l, 0, x, h => by
    have e : y = x := Option.some.inj h
    subst e
    simp
  | y :: l, K + 1, x, h => by
    have := sum_take f (l := l) (K := K) (x := x) (by simpa using h)
    simp only [List.take_succ_cons, List.map_cons, List.sum_cons]
    omega
theorem max_take {α : Type} (f : α → Nat) {l : List α} {K : Nat} {x : α} (h : l[K]? = some x) : ((l.take (K + 1)).map f).foldl max 0 = max (((l.take K).map f).foldl max 0) (f x) := by
  rw [List.take_add_one, h]
  simp only [Option.toList, List.map_append, List.map_cons, List.map_nil, List.foldl_append, List.foldl_cons, List.foldl_nil]
theorem may_any (D S O : Int) (h1 : 1 ≤ D) (h2 : D ≤ 200) (h3 : 5 ≤ S) (h4 : S ≤ 16777216) (h5 : 0 ≤ O) (h6 : O ≤ 67108864) (w : World) : Calls Tryz.prog 38 #[.agg #[.int .i64 D, .int .i64 S, .int .i64 O]] w fun e w' => e = .returned (.bool true) ∧ Below w.heap.size w w' := by
  go_enter Tryz.func38, Tryz.ntmps38
  go_wp2_with fail
  go_ret
  exact ⟨rfl, bel⟩
def SzV (k : Nat) (t : Ro) : Prop := ∀ (Q : Nat → Prop) (w : World) (v : Value), Is .V Q w k t v → Calls Tryz.prog 22 #[v] w fun e w' => e = .returned (.int .i64 (szR k t : Nat)) ∧ Below w.heap.size w w'
def DpV (k : Nat) (t : Ro) : Prop := ∀ (Q : Nat → Prop) (w : World) (v : Value), Is .V Q w k t v → Calls Tryz.prog 21 #[v] w fun e w' => e = .returned (.int .i64 (dpR k t : Nat)) ∧ Below w.heap.size w w'
theorem szk_any (k : Nat) (l : KL) (hl : l.length ≤ 20) (Q : Nat → Prop) (ad : Option Addr) (m c : Nat) (hm : l.length = m) (w : World) (hk : Kd .V Q w (k + 1) l (.slice ad m c)) (ih : ∀ x ∈ l, SzV k x.2) (hs : 5 + (l.map fun x => x.1.length + 2 + szR k x.2).sum ≤ 1000000) :
    Calls Tryz.prog 42 #[.slice ad m c] w fun e w' => e = .returned (.int .i64 ((5 + (l.map fun x => x.1.length + 2 + szR k x.2).sum : Nat) : Int)) ∧ Below w.heap.size w w' := by
  have HK := Lib.hid hk
  have HI : Hid (∀ x ∈ l, ∀ (Q : Nat → Prop) (w : World) (v : Value), Is .V Q w k x.2 v → Calls Tryz.prog 22 #[v] w fun e w' => e = .returned (.int .i64 (szR k x.2 : Nat)) ∧ Below w.heap.size w w') := Lib.hid ih
  have HM := Lib.hid hm
  have HS := Lib.hid hs
  have hm20 : m ≤ 20 := by omega
  obtain ⟨R, hR⟩ : ∃ R, 5 + (l.map fun x => x.1.length + 2 + szR k x.2).sum = R := ⟨_, rfl⟩
  rw [hR]
  have HR := Lib.hid hR
  clear hk hm hl ih hs hR
  go_enter Tryz.func42, Tryz.ntmps42
  go_wp2_with fail
  go_loopw [3, 8] (fun s x wr => ∃ K S : Nat, K ≤ m ∧ s = .int .i64 S ∧ x = .int .i64 K ∧ Hid (5 + ((l.take K).map fun x => x.1.length + 2 + szR k x.2).sum = S) ∧ Hid (Below w.heap.size w wr)) (fun _ x _ => m - (intOf x).toNat)
  case atStart => exact ⟨0, 5, by omega, rfl, rfl, Lib.hid (by simp), Lib.hid (Below.refl _ _)⟩
  case round =>
    obtain ⟨K, S, hK, rfl, rfl, HV, HW⟩ := hrel
    have hzw := HW.out.size
    by_cases hKm : K < m
    · obtain ⟨⟨kn, kx⟩, hkx⟩ : ∃ x, l[K]? = some x := ⟨_, List.getElem?_eq_getElem (by have := HM.out; omega)⟩
      obtain ⟨b, o, bv, s, rfl, hqb, hbl, hra, hby, hkd⟩ := HK.out.at hkx
      have hblk : wr.heap[b]? = w.heap[b]? := HW.out.block b hbl
      obtain ⟨sd, sc, rfl⟩ := hkd.slice
      have hby2 := Lib.hid hby
      obtain ⟨bd2, bc2, rfl, hbb⟩ := hby
      obtain ⟨r0, r1, r2, r3, r4, r5, r6, r7, r8, r9⟩ := rowV (rangeAt_block hblk hra)
      have KQ : Hid (∀ w6 : World, Below wr.heap.size wr w6 → Is .V Q w6 k kx (.agg #[.int .i64 kx.o.kind, .int .u64 kx.o.bits, .int .u64 kx.o.high, .int .u64 kx.o.low, .string (bs kx.o.text), .string (bs kx.o.more), .int .i64 kx.o.sub, .slice bd2 kx.o.bytes.length bc2, .slice sd kx.kids.length sc])) := Lib.hid (fun w6 h6 => Is.beyond (w := w) ⟨_, _, rfl, hby2.out, hkd⟩ (HW.out.trans (h6.mono HW.out.size)))
      have HMEM := Lib.hid (List.mem_of_getElem? hkx)
      have HKX := Lib.hid hkx
      obtain ⟨V0, hV0⟩ : ∃ x, bs kn = x := ⟨_, rfl⟩
      obtain ⟨V1, hV1⟩ : ∃ x, kx.o.kind = x := ⟨_, rfl⟩
      obtain ⟨V2, hV2⟩ : ∃ x, kx.o.bits = x := ⟨_, rfl⟩
      obtain ⟨V3, hV3⟩ : ∃ x, kx.o.high = x := ⟨_, rfl⟩
      obtain ⟨V4, hV4⟩ : ∃ x, kx.o.low = x := ⟨_, rfl⟩
      obtain ⟨V5, hV5⟩ : ∃ x, bs kx.o.text = x := ⟨_, rfl⟩
      obtain ⟨V6, hV6⟩ : ∃ x, bs kx.o.more = x := ⟨_, rfl⟩
      obtain ⟨V7, hV7⟩ : ∃ x, kx.o.sub = x := ⟨_, rfl⟩
      obtain ⟨V8, hV8⟩ : ∃ x, kx.o.bytes.length = x := ⟨_, rfl⟩
      obtain ⟨V9, hV9⟩ : ∃ x, kx.kids.length = x := ⟨_, rfl⟩
      rw [hV0] at r0
      rw [hV1] at r1 KQ
      rw [hV2] at r2 KQ
      rw [hV3] at r3 KQ
      rw [hV4] at r4 KQ
      rw [hV5] at r5 KQ
      rw [hV6] at r6 KQ
      rw [hV7] at r7 KQ
      rw [hV8] at r8 KQ
      rw [hV9] at r9 KQ
      clear hra hkd hby2 hbb hblk hkx
      obtain ⟨Z, hZ⟩ : ∃ x, szR k kx = x := ⟨_, rfl⟩
      have HIx := HI.out _ HMEM.out Q
      simp only [hZ] at HIx
      have HIx := Lib.hid HIx
      have ht := sum_take (fun x : List UInt8 × Ro => x.1.length + 2 + szR k x.2) HKX.out
      have hn : V0.size = kn.length := by rw [← hV0]; exact bs_size kn
      have hv := HV.out
      have hso := HS.out
      simp only [hZ] at ht
      have HV2 : Hid (5 + ((l.take (K + 1)).map fun x => x.1.length + 2 + szR k x.2).sum = S + (V0.size + 2 + Z)) := Lib.hid (by omega)
      have hb1 : S + (V0.size + 2 + Z) ≤ 1000000 := by omega
      clear ht hn hv hso hZ
      clear hV0 hV1 hV2 hV3 hV4 hV5 hV6 hV7 hV8 hV9
      go_upto_region 5 with fail
      clear r0 r1 r2 r3 r4 r5 r6 r7 r8 r9
      go_region_held_law (fun W => (W.cell? ⟨wr.heap.size, 0, none⟩ = some (.string V0) ∧ W.cell? ⟨wr.heap.size, 1, none⟩ = some (.int .i64 V1) ∧ W.cell? ⟨wr.heap.size, 2, none⟩ = some (.int .u64 V2) ∧ W.cell? ⟨wr.heap.size, 3, none⟩ = some (.int .u64 V3) ∧ W.cell? ⟨wr.heap.size, 4, none⟩ = some (.int .u64 V4) ∧ W.cell? ⟨wr.heap.size, 5, none⟩ = some (.string V5) ∧ W.cell? ⟨wr.heap.size, 6, none⟩ = some (.string V6) ∧ W.cell? ⟨wr.heap.size, 7, none⟩ = some (.int .i64 V7) ∧ W.cell? ⟨wr.heap.size, 8, none⟩ = some (.slice bd2 V8 bc2) ∧ W.cell? ⟨wr.heap.size, 9, none⟩ = some (.slice sd V9 sc)) ∧ W.heap[wr.heap.size]? = some (.cells #[.string V0, .int .i64 V1, .int .u64 V2, .int .u64 V3, .int .u64 V4, .string V5, .string V6, .int .i64 V7, .slice bd2 V8 bc2, .slice sd V9 sc] 51 (0, 0))) ((refine row10 ?_; first | assumption | exact heap_alloc_last wr _ | exact (Below.heap_alloc _ _ _ (by simp)).trans (heap_alloc_last wr _))) (first | (go_at_call 22; go_loud (refine (HIx.out _ _ (KQ.out _ bel)).mono ?_; rintro e w7 ⟨rfl, hb7⟩); have hS7 := (hb7.block wr.heap.size (by simp)).trans (heap_alloc_last wr _)))
      have hw7 := bwB hb7 wr.heap.size wr
      clear hb7 hS7
      go_wp2_with fail
      have e1 : IntKind.i64.wrap ((V0.size : Int) + 2) = (V0.size : Int) + 2 := by rw [IntKind.wrap_i64]; omega
      have e2 : IntKind.i64.wrap ((V0.size : Int) + 2 + (Z : Int)) = (V0.size : Int) + 2 + Z := by rw [IntKind.wrap_i64]; omega
      have e3 : IntKind.i64.wrap ((S : Int) + ((V0.size : Int) + 2 + (Z : Int))) = (S : Int) + (V0.size + 2 + Z) := by rw [IntKind.wrap_i64]; omega
      go_roundw
      case rel => exact ⟨K + 1, S + (V0.size + 2 + Z), by omega, by first | go_num | (rw [e1, e2, e3]; go_num), by go_num, HV2, Lib.hid (HW.out.trans (hw7.mono hzw))⟩
      case measure => simp [intOf]; omega
    · have hKe : K = m := by omega
      subst hKe
      have he : S = R := by
        rw [← HV.out, ← HR.out, List.take_of_length_le (by have := HM.out; omega)]
      subst he
      go_wp2_with fail
      go_ret
      exact ⟨rfl, HW.out⟩
end
section
open Go.RowKit
theorem escs_app (a b : List UInt8) : escs (a ++ b) = escs a ++ escs b := by simp [escs]
theorem escs_cons (x : UInt8) (l : List UInt8) : escs (x :: l) = esc x ++ escs l := rfl
theorem drop_more {L A Z : List UInt8} {p n : Nat} (h : L.drop p = A ++ Z) (hn : n = A.length) : L.drop (p + n) = Z := by
  subst hn
  rw [← List.drop_drop, h, List.drop_left]
theorem esc_high {y : UInt8} (h : 128 ≤ y.toNat) : esc y = [y] := by
  have e : escTo y = none := by
    unfold escTo
    have hn : ∀ c : UInt8, c.toNat < 128 → y ≠ c := fun c hc e => by subst e; omega
    rw [if_neg (hn _ (by decide)), if_neg (hn _ (by decide)), if_neg (hn _ (by decide)), if_neg (hn _ (by decide)), if_neg (hn _ (by decide)), if_neg (hn _ (by decide)), if_neg (hn _ (by decide))]
  unfold esc
  rw [e]
  exact if_neg (by omega)
theorem escs_high : ∀ (l : List UInt8) (n : Nat), (∀ i, i < n → ∃ x, l[i]? = some x ∧ 128 ≤ x.toNat) → escs (l.take n) = l.take n
  | _, 0, _ => by simp [escs]
  | [], n + 1, h => by simp [escs]
  | y :: l, n + 1, h => by
    obtain ⟨x, hx, h2⟩ := h 0 (by omega)
    simp at hx
    subst hx
    rw [List.take_succ_cons, escs_cons, esc_high h2, escs_high l n (fun i hi => by simpa using h (i + 1) (by omega))]
    rfl
def selfB (x : UInt8) : Prop := escTo x = none ∧ 32 ≤ x.toNat
theorem esc_self {x : UInt8} (h : selfB x) : esc x = [x] := by
  unfold esc
  rw [h.1]
  exact if_neg (by have := h.2; omega)
theorem char_self {x : UInt8} {r : List UInt8} (h : selfB x) (hn : 0 < (chr (x :: r)).2) : escs ((x :: r).take (chr (x :: r)).2) = (x :: r).take (chr (x :: r)).2 := by
  rcases Nat.lt_or_ge (chr (x :: r)).2 2 with h1 | h2
  · have e : (chr (x :: r)).2 = 1 := by omega
    rw [e]
    show escs [x] = [x]
    rw [escs_cons, esc_self h]
    rfl
  · exact escs_high _ _ (chr_high h2)
theorem char_at {L Z : List UInt8} {p : Nat} {x : UInt8} {r : List UInt8} (hp : L.drop p = escs (x :: r) ++ Z) (h : selfB x) (hn : 0 < (chr (x :: r)).2) :
    chr ((L.drop p).take 4) = chr (x :: r) ∧ (L.drop p).take (chr (x :: r)).2 = (x :: r).take (chr (x :: r)).2 ∧ p + (chr (x :: r)).2 ≤ L.length ∧ L.drop (p + (chr (x :: r)).2) = escs ((x :: r).drop (chr (x :: r)).2) ++ Z := by
  have hs := char_self h hn
  have hle := chr_le (x :: r)
  have e : L.drop p = (x :: r).take (chr (x :: r)).2 ++ (escs ((x :: r).drop (chr (x :: r)).2) ++ Z) := by
    rw [hp]
    conv => lhs; rw [← List.take_append_drop (chr (x :: r)).2 (x :: r), escs_app, hs]
    rw [List.append_assoc]
  obtain ⟨n, hne⟩ : ∃ n, (chr (x :: r)).2 = n := ⟨_, rfl⟩
  have hlen : ((x :: r).take (chr (x :: r)).2).length = n := by rw [List.length_take, hne]; omega
  have hct : chr ((x :: r).take n) = chr (x :: r) := chr_take (by omega) hn
  rw [hne] at e hlen hle hn ⊢
  refine ⟨?_, ?_, ?_, drop_more e hlen.symm⟩
  · rw [e, List.take_append, List.take_of_length_le (l := (x :: r).take n) (by omega)]
    rw [chr_app (by rw [hct]; omega), hct]
  · rw [e, List.take_append, List.take_of_length_le (l := (x :: r).take n) (by omega), hlen, Nat.sub_self]
    simp
  · have h1 := congrArg List.length e
    rw [List.length_drop, List.length_append, hlen] at h1
    omega
theorem byte_at {T : ByteArray} {p : Nat} {c : UInt8} {r : List UInt8} (h : T.data.toList.drop p = c :: r) : ∃ hp : p < T.size, T[p]'hp = c := by
  have h1 := congrArg List.length h
  rw [List.length_drop] at h1
  have hp : p < T.size := by
    have : T.data.toList.length = T.size := by simp
    simp only [List.length_cons] at h1
    omega
  refine ⟨hp, ?_⟩
  have h2 : (T.data.toList.drop p)[0]? = some c := by rw [h]; rfl
  rw [List.getElem?_drop] at h2
  have h3 : T.data.toList[p]? = some (T[p]'hp) := by
    rw [List.getElem?_eq_getElem (by simpa using hp)]
    rfl
  rw [Nat.add_zero, h3] at h2
  injection h2
end
section
open Go.RowKit
def Jq : Nat → Ro → Prop
  | 0, t => ∃ x, x.length ≤ 200 ∧ Wh x ∧ t = jS x
  | k + 1, t => (∃ x, x.length ≤ 200 ∧ Wh x ∧ t = jS x) ∨ ∃ l, l.length ≤ 20 ∧ ((t = jO l ∧ ∀ x ∈ l, x.1.length ≤ 200 ∧ Wh x.1 ∧ Jq k x.2) ∨ (t = jA l ∧ ∀ x ∈ l, x.1 = [] ∧ Jq k x.2))
theorem Jq.jk : ∀ {k : Nat} {t : Ro}, Jq k t → Jk k t
  | 0, _, h => .inl h
  | k + 1, t, h => by
    rcases h with h | ⟨l, h1, h2 | h2⟩
    · exact .inl (.inl h)
    · exact .inr ⟨l, h1, .inl ⟨h2.1, fun x hx => ⟨(h2.2 x hx).1, (h2.2 x hx).2.1, (h2.2 x hx).2.2.jk⟩⟩⟩
    · exact .inr ⟨l, h1, .inr ⟨h2.1, fun x hx => ⟨(h2.2 x hx).1, (h2.2 x hx).2.jk⟩⟩⟩
theorem Jq.more : ∀ {k k' : Nat} {t : Ro}, k ≤ k' → Jq k t → Jq k' t
  | 0, 0, _, _, h => h
  | 0, _ + 1, _, _, h => .inl h
  | k + 1, 0, _, h, _ => by omega
  | k + 1, k' + 1, _, hk, h => by
    rcases h with h | ⟨l, h1, h2 | h2⟩
    · exact .inl h
    · exact .inr ⟨l, h1, .inl ⟨h2.1, fun x hx => ⟨(h2.2 x hx).1, (h2.2 x hx).2.1, Jq.more (by omega) (h2.2 x hx).2.2⟩⟩⟩
    · exact .inr ⟨l, h1, .inr ⟨h2.1, fun x hx => ⟨(h2.2 x hx).1, Jq.more (by omega) (h2.2 x hx).2⟩⟩⟩
theorem jq_str {k : Nat} {x : List UInt8} (h1 : x.length ≤ 200) (h2 : Wh x) : Jq k (jS x) := by
  cases k with
  | zero => exact ⟨x, h1, h2, rfl⟩
  | succ k => exact .inl ⟨x, h1, h2, rfl⟩
theorem jq_obj {k : Nat} {l : KL} (hl : l.length ≤ 20) (h : ∀ x ∈ l, x.1.length ≤ 200 ∧ Wh x.1 ∧ Jq k x.2) : Jq (k + 1) (jO l) := .inr ⟨l, hl, .inl ⟨rfl, h⟩⟩
theorem jq_one {k : Nat} {nm : List UInt8} {j : Ro} (h1 : nm.length ≤ 200) (h2 : Wh nm) (h : Jq k j) : Jq (k + 1) (jO [(nm, j)]) :=
  jq_obj (by simp) fun x hx => by
    rcases List.mem_singleton.1 hx with rfl
    exact ⟨h1, h2, h⟩
theorem jq_docJ {i : Ro} (hi : Jq 1 i) : ∀ {k : Nat} {nm : List UInt8} {t : Ro}, Dk k t → okT k nm t = true → Jq (2 * k + 1) (docJ i k t)
  | 0, nm, t, h, ho => by
    rcases h with ⟨x, hx, rfl⟩ | rfl
    · rw [docJ_vS]; exact jq_str hx (okT_text ho)
    · rw [docJ_vI]; exact hi
  | k + 1, nm, t, h, ho => by
    rcases h with (⟨x, hx, rfl⟩ | rfl) | ⟨l, rfl | rfl, hl, h⟩
    · rw [docJ_vS]; exact jq_str hx (okT_text ho)
    · rw [docJ_vI]; exact hi.more (by omega)
    · rw [docJ_vD]
      have h0 : Jq (2 * k + 2) (jO (l.map fun x => (x.1, docJ i k x.2))) := jq_obj (by simpa using hl) fun x hx => by
        obtain ⟨y, hy, rfl⟩ := List.mem_map.1 hx
        have := okT_at ho hy
        exact ⟨(h y hy).1, (okT_nm this).1, jq_docJ hi (h y hy).2 this⟩
      unfold wrapD
      split
      · exact jq_one (by decide) wh_nDoc h0
      · exact h0.more (by omega)
    · rw [docJ_vA]
      split
      · refine .inr ⟨_, by simpa using hl, .inr ⟨rfl, fun x hx => ?_⟩⟩
        obtain ⟨y, hy, rfl⟩ := List.mem_map.1 hx
        exact ⟨rfl, (jq_docJ hi (h y hy).2 (okT_at ho hy)).more (by omega)⟩
      · refine jq_one (by decide) wh_nArr (jq_obj (k := 2 * k + 1) (by simpa using hl) fun x hx => ?_)
        obtain ⟨y, hy, rfl⟩ := List.mem_map.1 hx
        have := okT_at ho hy
        exact ⟨(h y hy).1, (okT_nm this).1, jq_docJ hi (h y hy).2 this⟩
def At (T : ByteArray) (p : Nat) (Z : List UInt8) : Prop := p ≤ T.size ∧ T.data.toList.drop p = Z
theorem At.zero (T : ByteArray) : At T 0 T.data.toList := ⟨Nat.zero_le _, rfl⟩
theorem At.more {T : ByteArray} {p : Nat} {A Z : List UInt8} (h : At T p (A ++ Z)) : At T (p + A.length) Z := by
  refine ⟨?_, drop_more h.2 rfl⟩
  have h1 := congrArg List.length h.2
  have h2 := h.1
  have h3 : T.data.toList.length = T.size := by simp
  rw [List.length_drop, List.length_append] at h1
  omega
theorem At.next {T : ByteArray} {p : Nat} {c : UInt8} {Z : List UInt8} (h : At T p (c :: Z)) : At T (p + 1) Z := At.more (A := [c]) (by simpa using h)
theorem At.byte {T : ByteArray} {p : Nat} {c : UInt8} {Z : List UInt8} (h : At T p (c :: Z)) : ∃ hp : p < T.size, T[p]'hp = c := byte_at h.2
theorem At.end' {T : ByteArray} {p : Nat} (h : At T p []) : p = T.size := by
  have h1 := congrArg List.length h.2
  have h2 := h.1
  have h3 : T.data.toList.length = T.size := by simp
  rw [List.length_drop] at h1
  simp only [List.length_nil] at h1
  omega
def itO (k : Nat) (x : List UInt8 × Ro) : List UInt8 := quote x.1 ++ 58 :: prJ k x.2
def itA (k : Nat) (x : List UInt8 × Ro) : List UInt8 := prJ k x.2
def tl (f : List UInt8 × Ro → List UInt8) (l : KL) (c : UInt8) (Z : List UInt8) : List UInt8 := l.flatMap (fun y => 44 :: f y) ++ c :: Z
theorem tl_nil (f : List UInt8 × Ro → List UInt8) (c : UInt8) (Z : List UInt8) : tl f [] c Z = c :: Z := rfl
theorem tl_cons (f : List UInt8 × Ro → List UInt8) (y : List UInt8 × Ro) (l : KL) (c : UInt8) (Z : List UInt8) : tl f (y :: l) c Z = 44 :: (f y ++ tl f l c Z) := by simp [tl]
theorem prJ_jS (k : Nat) (x : List UInt8) : prJ k (jS x) = quote x := by cases k <;> simp [prJ, jS, pS]
theorem prJ_jO (k : Nat) (l : KL) : prJ (k + 1) (jO l) = 123 :: (joinC (l.map (itO k)) ++ [125]) := rfl
theorem prJ_jA (k : Nat) (l : KL) : prJ (k + 1) (jA l) = 91 :: (joinC (l.map (itA k)) ++ [93]) := rfl
theorem join_tl (f : List UInt8 × Ro → List UInt8) (x : List UInt8 × Ro) (l : KL) (c : UInt8) (Z : List UInt8) : (joinC ((x :: l).map f) ++ [c]) ++ Z = f x ++ tl f l c Z := by
  simp [joinC, tl, List.flatMap_map]
theorem at_objN {T : ByteArray} {p k : Nat} {Z : List UInt8} (h : At T p (prJ (k + 1) (jO []) ++ Z)) : At T (p + 1) (125 :: Z) := At.next (c := 123) (by rw [prJ_jO] at h; simpa [joinC] using h)
theorem at_objC {T : ByteArray} {p k : Nat} {x : List UInt8 × Ro} {l : KL} {Z : List UInt8} (h : At T p (prJ (k + 1) (jO (x :: l)) ++ Z)) : At T (p + 1) (itO k x ++ tl (itO k) l 125 Z) := At.next (c := 123) (by rw [prJ_jO, List.cons_append, join_tl] at h; exact h)
theorem at_arrN {T : ByteArray} {p k : Nat} {Z : List UInt8} (h : At T p (prJ (k + 1) (jA []) ++ Z)) : At T (p + 1) (93 :: Z) := At.next (c := 91) (by rw [prJ_jA] at h; simpa [joinC] using h)
theorem at_arrC {T : ByteArray} {p k : Nat} {x : List UInt8 × Ro} {l : KL} {Z : List UInt8} (h : At T p (prJ (k + 1) (jA (x :: l)) ++ Z)) : At T (p + 1) (itA k x ++ tl (itA k) l 93 Z) := At.next (c := 91) (by rw [prJ_jA, List.cons_append, join_tl] at h; exact h)
def tokE (j : Ro) (p : Nat) : Nat := if j.o.kind = 5 then p + (quote j.o.text).length else p + 1
def tokK (j : Ro) : Int := if j.o.kind = 5 then 8 else if j.o.kind = 6 then 4 else 2
end
section
open Go.RowKit
theorem hex_class : ∀ n : Fin 16, (48 ≤ (hexD n.1).toNat ∧ (hexD n.1).toNat ≤ 57) ∨ (97 ≤ (hexD n.1).toNat ∧ (hexD n.1).toNat ≤ 102) := by decide
end
section
open Go.RowKit
theorem hex_find2 : ∀ n : Fin 16, Lib.indexByte [48, 49, 50, 51, 52, 53, 54, 55, 56, 57, 97, 98, 99, 100, 101, 102] ((bits BinOp.or IntKind.u8 ((hexD n.1).toNat : Int) 32).toNat.toUInt8) = (n.1 : Int) := by decide
def cdv (d : Nat → Nat) : Nat → Nat
  | 0 => 0
  | K + 1 => 16 * cdv d K + d K
theorem cdv_lt (d : Nat → Nat) (hd : ∀ j, d j < 16) : ∀ K, K ≤ 4 → cdv d K < 65536 := by
  intro K hK
  have h0 := hd 0
  have h1 := hd 1
  have h2 := hd 2
  have h3 := hd 3
  rcases (by omega : K = 0 ∨ K = 1 ∨ K = 2 ∨ K = 3 ∨ K = 4) with rfl | rfl | rfl | rfl | rfl <;> simp only [cdv] <;> omega
theorem code_any (T : ByteArray) (hT : T.size ≤ 1000000) (k : Nat) (d : Nat → Nat) (hd : ∀ j, d j < 16) (hk : k + 4 ≤ T.size) (hb : ∀ j (hj : j < 4), T[k + j]'(by omega) = hexD (d j)) (w : World) :
    Calls Tryz.prog 256 #[.string T, .int .i64 k] w fun e w' => e = .returned (.tuple #[.int .i64 (cdv d 4 : Nat), .int .i64 4]) ∧ w = w' := by
  have HB := Lib.hid hb
  have HD := Lib.hid hd
  clear hb hd
  go_enter Tryz.func256, Tryz.ntmps256
  go_wp2_with fail
  go_loopw [4, 5] (fun v x wr => ∃ (K : Nat) (V : Int), K ≤ 4 ∧ Hid (V = (cdv d K : Nat)) ∧ 0 ≤ V ∧ V < 65536 ∧ v = .int .i64 V ∧ x = .int .i64 K ∧ wr = w) (fun _ x _ => 4 - (intOf x).toNat)
  case atStart => exact ⟨0, 0, by omega, Lib.hid rfl, by omega, by omega, rfl, rfl, rfl⟩
  case round =>
    obtain ⟨K, V, hK, HV, hV0, hV1, rfl, rfl, rfl⟩ := hrel
    by_cases hK4 : K < 4
    · have hin : k + K < T.size := by omega
      have hy := HB.out K hK4
      have hdK := HD.out K
      have hf := hex_find2 ⟨d K, hdK⟩
      have hcl := hex_class ⟨d K, hdK⟩
      simp only at hf hcl
      rw [← hy] at hf hcl
      have H : Hid (∀ w : World, Calls Tryz.prog 249 #[.string { data := #[48, 49, 50, 51, 52, 53, 54, 55, 56, 57, 97, 98, 99, 100, 101, 102] }, .int .u8 (bits BinOp.or IntKind.u8 (T[k + K].toNat : Int) 32)] w fun e w' => e = .returned (.int .i64 (d K : Nat)) ∧ w = w') := Lib.hid (fun w => by
        have h := Tryz.strings_IndexByte { data := #[48, 49, 50, 51, 52, 53, 54, 55, 56, 57, 97, 98, 99, 100, 101, 102] } (bits BinOp.or IntKind.u8 (T[k + K].toNat : Int) 32) w
        exact h.mono (fun e w' h => ⟨by rw [h.1]; show Ending.returned (.int .i64 (Lib.indexByte [48, 49, 50, 51, 52, 53, 54, 55, 56, 57, 97, 98, 99, 100, 101, 102] _)) = _; rw [hf], h.2.symm⟩))
      clear hy hf
      have hlt := cdv_lt d HD.out (K + 1) (by omega)
      have hV2 : 16 * V + (d K : Nat) = (cdv d (K + 1) : Nat) := by rw [HV.out]; show _ = ((16 * cdv d K + d K : Nat) : Int); omega
      have hV3 : 16 * V + (d K : Nat) < 65536 := by omega
      have HV2 := Lib.hid hV2
      clear hlt hV2
      obtain ⟨D, hD⟩ : ∃ D : Int, D = (d K : Nat) := ⟨_, rfl⟩
      have hD0 : 0 ≤ D := by omega
      have hD1 : D < 16 := by omega
      rw [← hD] at H HV2 hV3
      clear hD
      obtain ⟨S, hS⟩ : ∃ S : Int, S = (T[k + K].toNat : Int) := ⟨_, rfl⟩
      rcases hcl with ⟨c1, c2⟩ | ⟨c1, c2⟩
      · have e1 : ¬ (T[k + K].toNat : Int) < 48 := by omega
        have e2 : ¬ 57 < (T[k + K].toNat : Int) := by omega
        clear hS
        go_wp2_with fail
        with_reducible refine (H.out _).mono ?_
        rintro e w' ⟨rfl, rfl⟩
        go_wp2_with fail
        go_roundw
        case rel => exact ⟨K + 1, 16 * V + D, by omega, HV2, by omega, hV3, by go_num, by go_num, by first | rfl | trivial⟩
        case measure => simp [intOf]; omega
      · have e1 : ¬ (T[k + K].toNat : Int) < 48 := by omega
        have e2 : 57 < (T[k + K].toNat : Int) := by omega
        have e3 : ¬ (T[k + K].toNat : Int) < 65 := by omega
        clear hS
        go_wp2_with fail
        with_reducible refine (H.out _).mono ?_
        rintro e w' ⟨rfl, rfl⟩
        go_wp2_with fail
        go_roundw
        case rel => exact ⟨K + 1, 16 * V + D, by omega, HV2, by omega, hV3, by go_num, by go_num, by first | rfl | trivial⟩
        case measure => simp [intOf]; omega
    · have hKe : K = 4 := by omega
      subst hKe
      have hVe := HV.out
      go_wp2_with fail
      go_ret2
      exact ⟨by rw [← hVe]; rfl, rfl⟩
end
section
open Go.RowKit
theorem sign_34 (w : World) : Calls Tryz.prog 255 #[.int .u8 34] w fun e w' => e = .returned (.int .u8 34) ∧ w = w' := by
  have H : Hid (∀ w : World, Calls Tryz.prog 249 #[.string { data := #[34, 92, 47, 98, 102, 110, 114, 116] }, .int .u8 34] w fun e w' => e = .returned (.int .i64 0) ∧ w = w') := Lib.hid (fun w => (Tryz.strings_IndexByte { data := #[34, 92, 47, 98, 102, 110, 114, 116] } 34 w).mono (fun e w' h => ⟨h.1, h.2.symm⟩))
  go_enter Tryz.func255, Tryz.ntmps255
  go_wp2_with fail
  with_reducible refine (H.out _).mono ?_
  rintro e w' ⟨rfl, rfl⟩
  go_wp2_with fail
  go_ret
  exact ⟨rfl, rfl⟩
theorem sign_92 (w : World) : Calls Tryz.prog 255 #[.int .u8 92] w fun e w' => e = .returned (.int .u8 92) ∧ w = w' := by
  have H : Hid (∀ w : World, Calls Tryz.prog 249 #[.string { data := #[34, 92, 47, 98, 102, 110, 114, 116] }, .int .u8 92] w fun e w' => e = .returned (.int .i64 1) ∧ w = w') := Lib.hid (fun w => (Tryz.strings_IndexByte { data := #[34, 92, 47, 98, 102, 110, 114, 116] } 92 w).mono (fun e w' h => ⟨h.1, h.2.symm⟩))
  go_enter Tryz.func255, Tryz.ntmps255
  go_wp2_with fail
  with_reducible refine (H.out _).mono ?_
  rintro e w' ⟨rfl, rfl⟩
  go_wp2_with fail
  go_ret
  exact ⟨rfl, rfl⟩
theorem sign_98 (w : World) : Calls Tryz.prog 255 #[.int .u8 98] w fun e w' => e = .returned (.int .u8 8) ∧ w = w' := by
  have H : Hid (∀ w : World, Calls Tryz.prog 249 #[.string { data := #[34, 92, 47, 98, 102, 110, 114, 116] }, .int .u8 98] w fun e w' => e = .returned (.int .i64 3) ∧ w = w') := Lib.hid (fun w => (Tryz.strings_IndexByte { data := #[34, 92, 47, 98, 102, 110, 114, 116] } 98 w).mono (fun e w' h => ⟨h.1, h.2.symm⟩))
  go_enter Tryz.func255, Tryz.ntmps255
  go_wp2_with fail
  with_reducible refine (H.out _).mono ?_
  rintro e w' ⟨rfl, rfl⟩
  go_wp2_with fail
  go_ret
  exact ⟨rfl, rfl⟩
theorem sign_102 (w : World) : Calls Tryz.prog 255 #[.int .u8 102] w fun e w' => e = .returned (.int .u8 12) ∧ w = w' := by
  have H : Hid (∀ w : World, Calls Tryz.prog 249 #[.string { data := #[34, 92, 47, 98, 102, 110, 114, 116] }, .int .u8 102] w fun e w' => e = .returned (.int .i64 4) ∧ w = w') := Lib.hid (fun w => (Tryz.strings_IndexByte { data := #[34, 92, 47, 98, 102, 110, 114, 116] } 102 w).mono (fun e w' h => ⟨h.1, h.2.symm⟩))
  go_enter Tryz.func255, Tryz.ntmps255
  go_wp2_with fail
  with_reducible refine (H.out _).mono ?_
  rintro e w' ⟨rfl, rfl⟩
  go_wp2_with fail
  go_ret
  exact ⟨rfl, rfl⟩
theorem sign_110 (w : World) : Calls Tryz.prog 255 #[.int .u8 110] w fun e w' => e = .returned (.int .u8 10) ∧ w = w' := by
  have H : Hid (∀ w : World, Calls Tryz.prog 249 #[.string { data := #[34, 92, 47, 98, 102, 110, 114, 116] }, .int .u8 110] w fun e w' => e = .returned (.int .i64 5) ∧ w = w') := Lib.hid (fun w => (Tryz.strings_IndexByte { data := #[34, 92, 47, 98, 102, 110, 114, 116] } 110 w).mono (fun e w' h => ⟨h.1, h.2.symm⟩))
  go_enter Tryz.func255, Tryz.ntmps255
  go_wp2_with fail
  with_reducible refine (H.out _).mono ?_
  rintro e w' ⟨rfl, rfl⟩
  go_wp2_with fail
  go_ret
  exact ⟨rfl, rfl⟩
theorem sign_114 (w : World) : Calls Tryz.prog 255 #[.int .u8 114] w fun e w' => e = .returned (.int .u8 13) ∧ w = w' := by
  have H : Hid (∀ w : World, Calls Tryz.prog 249 #[.string { data := #[34, 92, 47, 98, 102, 110, 114, 116] }, .int .u8 114] w fun e w' => e = .returned (.int .i64 6) ∧ w = w') := Lib.hid (fun w => (Tryz.strings_IndexByte { data := #[34, 92, 47, 98, 102, 110, 114, 116] } 114 w).mono (fun e w' h => ⟨h.1, h.2.symm⟩))
  go_enter Tryz.func255, Tryz.ntmps255
  go_wp2_with fail
  with_reducible refine (H.out _).mono ?_
  rintro e w' ⟨rfl, rfl⟩
  go_wp2_with fail
  go_ret
  exact ⟨rfl, rfl⟩
theorem sign_116 (w : World) : Calls Tryz.prog 255 #[.int .u8 116] w fun e w' => e = .returned (.int .u8 9) ∧ w = w' := by
  have H : Hid (∀ w : World, Calls Tryz.prog 249 #[.string { data := #[34, 92, 47, 98, 102, 110, 114, 116] }, .int .u8 116] w fun e w' => e = .returned (.int .i64 7) ∧ w = w') := Lib.hid (fun w => (Tryz.strings_IndexByte { data := #[34, 92, 47, 98, 102, 110, 114, 116] } 116 w).mono (fun e w' h => ⟨h.1, h.2.symm⟩))
  go_enter Tryz.func255, Tryz.ntmps255
  go_wp2_with fail
  with_reducible refine (H.out _).mono ?_
  rintro e w' ⟨rfl, rfl⟩
  go_wp2_with fail
  go_ret
  exact ⟨rfl, rfl⟩
theorem sign_any {c d : UInt8} (h : escTo c = some d) (w : World) : Calls Tryz.prog 255 #[.int .u8 (d.toNat : Int)] w fun e w' => e = .returned (.int .u8 (c.toNat : Int)) ∧ w = w' := by
  unfold escTo at h
  split at h
  · rename_i e; subst e; cases h; exact sign_34 w
  split at h
  · rename_i e; subst e; cases h; exact sign_92 w
  split at h
  · rename_i e; subst e; cases h; exact sign_98 w
  split at h
  · rename_i e; subst e; cases h; exact sign_102 w
  split at h
  · rename_i e; subst e; cases h; exact sign_110 w
  split at h
  · rename_i e; subst e; cases h; exact sign_114 w
  split at h
  · rename_i e; subst e; cases h; exact sign_116 w
  · cases h
end
section
open Go.RowKit
theorem uis_low (z : Int) (h0 : 0 ≤ z) (h1 : z < 128) (w : World) : Calls Tryz.prog 309 #[.int .i64 z] w fun e w' => e = .returned (.bool true) ∧ w = w' := by
  have h2 : z ≤ 1114111 := by omega
  have h3 : z < 55296 := by omega
  go_enter Tryz.func309, Tryz.ntmps309
  go_wp2_with fail
  go_ret
  exact ⟨rfl, rfl⟩
theorem uput_low (z : Int) (h0 : 0 ≤ z) (h1 : z < 128) (w : World) : Calls Tryz.prog 310 #[.int .i64 z] w fun e w' => e = .returned (.tuple #[.slice (some ⟨w.heap.size, 0, none⟩) 1 1, .bool true]) ∧ w.alloc (.cells #[.int .u8 z] 5) = w' := by
  go_enter Tryz.func310, Tryz.ntmps310
  go_wp2_with fail
  with_reducible refine (uis_low z h0 h1 _).mono ?_
  rintro e w' ⟨rfl, rfl⟩
  go_wp2_with fail
  go_ret2
  exact ⟨rfl, rfl⟩
theorem lput_low (z : Int) (h0 : 0 ≤ z) (h1 : z < 128) (w : World) : Calls Tryz.prog 257 #[.int .i64 z] w fun e w' => e = .returned (.slice (some ⟨w.heap.size, 0, none⟩) 1 1) ∧ w.alloc (.cells #[.int .u8 z] 5) = w' := by
  go_enter Tryz.func257, Tryz.ntmps257
  go_wp2_with fail
  with_reducible refine (uput_low z h0 h1 _).mono ?_
  rintro e w' ⟨rfl, rfl⟩
  go_wp2_with fail
  go_ret
  exact ⟨rfl, rfl⟩
end
section
open Go.RowKit
theorem with_any (kd : Int) (ad : Option Addr) (n c : Nat) (w : World) :
    Calls Tryz.prog 198 #[.agg #[.int .i64 kd, .int .u64 0, .int .u64 0, .int .u64 0, .string { data := #[] }, .string { data := #[] }, .int .i64 0, .slice none 0 0, .slice none 0 0], .slice ad n c, .agg #[.int .i64 0, .int .i64 0, .slice none 0 0]] w fun e w' => e = .returned (.tuple #[.agg #[.int .i64 kd, .int .u64 0, .int .u64 0, .int .u64 0, .string { data := #[] }, .string { data := #[] }, .int .i64 0, .slice none 0 0, .slice ad n c], .agg #[.int .i64 0, .int .i64 0, .slice none 0 0]]) ∧ Below w.heap.size w w' := by
  go_enter Tryz.func198, Tryz.ntmps198
  go_wp2_with fail
  refine bodyPost_ret (v := .tuple #[.agg #[.int .i64 kd, .int .u64 0, .int .u64 0, .int .u64 0, .string { data := #[] }, .string { data := #[] }, .int .i64 0, .slice none 0 0, .slice ad n c], .agg #[.int .i64 0, .int .i64 0, .slice none 0 0]]) (by simp (maxDischargeDepth := 4) [results, Tryz.results198, go_sem]) rfl ?_
  exact ⟨rfl, bel⟩
end
section
open Go.RowKit
theorem shape_yes (tx s t : ByteArray) (b o nb c nc : Nat) (V1 : Int) (V2 : ByteArray) (sd : Option Addr) (V3 sc : Nat) (w : World) (hb : b < w.heap.size) (hnb : nb < w.heap.size)
    (r0 : w.cell? ⟨b, o, none⟩ = some (.string t)) (r1 : w.cell? ⟨b, o + 1, none⟩ = some (.int .i64 V1)) (r2 : w.cell? ⟨b, o + 2, none⟩ = some (.string V2)) (r3 : w.cell? ⟨b, o + 3, none⟩ = some (.slice sd V3 sc))
    (n0 : w.cell? ⟨nb, 0, none⟩ = some (.string s)) (hst : (t.toList == s.toList) = true) :
    Calls Tryz.prog 262 #[.agg #[.int .i64 7, .string tx, .slice (some ⟨b, o, none⟩) 1 c], .slice (some ⟨nb, 0, none⟩) 1 nc] w fun e w' => e = .returned (.bool true) ∧ Below w.heap.size w w' := by
  have h1 : b ≠ w.heap.size := by omega
  have h2 : nb ≠ w.heap.size := by omega
  have h3 : b < w.heap.size + 1 := by omega
  have h4 : nb < w.heap.size + 1 := by omega
  have h5 : b ≠ w.heap.size + 1 := by omega
  have h6 : nb ≠ w.heap.size + 1 := by omega
  go_enter Tryz.func262, Tryz.ntmps262
  go_wp2_with fail
  refine wp_loop_rounds 2 ?_
  rw [rounds_succ]
  go_wp2_with fail
  go_region
  all_goals
    go_wp2_with fail
    rw [rounds_succ]
    go_wp2_with fail
    go_ret
    exact ⟨rfl, bel⟩
theorem shape_no (tx s t : ByteArray) (b o nb c nc : Nat) (V1 : Int) (V2 : ByteArray) (sd : Option Addr) (V3 sc : Nat) (w : World) (hb : b < w.heap.size) (hnb : nb < w.heap.size)
    (r0 : w.cell? ⟨b, o, none⟩ = some (.string t)) (r1 : w.cell? ⟨b, o + 1, none⟩ = some (.int .i64 V1)) (r2 : w.cell? ⟨b, o + 2, none⟩ = some (.string V2)) (r3 : w.cell? ⟨b, o + 3, none⟩ = some (.slice sd V3 sc))
    (n0 : w.cell? ⟨nb, 0, none⟩ = some (.string s)) (hst : (t.toList == s.toList) = false) :
    Calls Tryz.prog 262 #[.agg #[.int .i64 7, .string tx, .slice (some ⟨b, o, none⟩) 1 c], .slice (some ⟨nb, 0, none⟩) 1 nc] w fun e w' => e = .returned (.bool false) ∧ Below w.heap.size w w' := by
  have h1 : b ≠ w.heap.size := by omega
  have h2 : nb ≠ w.heap.size := by omega
  have h3 : b < w.heap.size + 1 := by omega
  have h4 : nb < w.heap.size + 1 := by omega
  have h5 : b ≠ w.heap.size + 1 := by omega
  have h6 : nb ≠ w.heap.size + 1 := by omega
  go_enter Tryz.func262, Tryz.ntmps262
  go_wp2_with fail
  refine wp_loop_rounds 2 ?_
  rw [rounds_succ]
  go_wp2_with fail
  go_region
  all_goals
    go_wp2_with fail
    go_ret
    exact ⟨rfl, bel⟩
end
section
open Go.RowKit
theorem flat_set : ∀ (l : List (List UInt8 × Ro)) (ss : List (Value × Value)) (K : Nat) (nm nm' : List UInt8) (x : Ro), ss.length = l.length → l[K]? = some (nm, x) → flat .J (l.set K (nm', x)) ss = (flat .J l ss).set (4 * K) (.string (bs nm'))
  | [], _, K, _, _, _, _, h => by cases h
  | _ :: _, [], _, _, _, _, h, _ => by cases h
  | (n0, x0) :: l, s :: ss, 0, nm, nm', x, _, h => by
    have e : (n0, x0) = (nm, x) := Option.some.inj h
    injection e with e1 e2
    subst e1 e2
    rfl
  | (n0, x0) :: l, s :: ss, K + 1, nm, nm', x, hl, h => by
    have ih := flat_set l ss K nm nm' x (by simpa using hl) (by simpa using h)
    show Lay.row .J n0 x0.o s.1 s.2 ++ flat .J (l.set K (nm', x)) ss = (Lay.row .J n0 x0.o s.1 s.2 ++ flat .J l ss).set (4 * (K + 1)) _
    rw [ih, List.set_append_right _ _ (by rw [Lay.row_length]; show 4 ≤ _; omega), Lay.row_length]
    show _ = _ ++ (flat .J l ss).set (4 * (K + 1) - 4) _
    rw [show 4 * (K + 1) - 4 = 4 * K by omega]
theorem bd_len {T : TypeId} {w : World} {base d g n c : Nat} {l : List (List UInt8 × Ro)} {ss : List (Value × Value)} (h : w.ownsRow base T (Lay.wid .J) (.slice (some ⟨g, 0, none⟩) n c) l.length (flat .J l ss)) : n = l.length := by
  rcases h.2 with ⟨h, _⟩ | ⟨g', cap, cur, hv, _⟩
  · cases h
  · injection hv
theorem bd_rename {T : TypeId} {w : World} {base d g n c K : Nat} {l : List (List UInt8 × Ro)} {nm : List UInt8} {x : Ro} (h : Bd .J T w base d l (.slice (some ⟨g, 0, none⟩) n c)) (hK : l[K]? = some (nm, x)) (nm' : List UInt8) :
    Bd .J T (w.setCell ⟨g, 4 * K, none⟩ (.string (bs nm'))) base d (l.set K (nm', x)) (.slice (some ⟨g, 0, none⟩) n c) := by
  obtain ⟨ss, h1, h2, h3⟩ := h
  have hn := bd_len (d := d) h2
  subst hn
  have hk : Keeps (fun b => base ≤ b ∧ (Value.slice (some ⟨g, 0, none⟩) l.length c).ownBlock ≠ some b) w (w.setCell ⟨g, 4 * K, none⟩ (.string (bs nm'))) := Keeps.setCell (fun hb => hb.2 rfl) _
  refine ⟨ss, by rw [List.length_set]; exact h1, ?_, fun i nm2 x2 s hi hs => ?_⟩
  · rw [flat_set l ss K nm nm' x h1 hK, List.length_set]
    exact (World.ownsRow.stored h2 (4 * K) _).1
  · have : ∃ nm0, l[i]? = some (nm0, x2) := by
      rw [List.getElem?_set] at hi
      split at hi
      · rename_i e
        subst e
        split at hi
        · have e := Option.some.inj hi
          injection e with e1 e2
          subst e2
          exact ⟨nm, hK⟩
        · cases hi
      · exact ⟨nm2, hi⟩
    obtain ⟨nm0, h0⟩ := this
    exact ⟨Lay.by'_keeps hk (h3 i nm0 x2 s h0 hs).1, (h3 i nm0 x2 s h0 hs).2.keeps hk⟩
theorem bd_free {T : TypeId} {w : World} {base d g n c : Nat} {l : List (List UInt8 × Ro)} (h : Bd .J T w base d l (.slice (some ⟨g, 0, none⟩) n c)) {K : Nat} {nm : List UInt8} {x : Ro} (hK : l[K]? = some (nm, x)) :
    w.cell? ⟨g, 4 * K, none⟩ = some (.string (bs nm)) ∧ w.frozen? ⟨g, 4 * K, none⟩ = false := by
  obtain ⟨ss, h1, h2, h3⟩ := h
  obtain rfl := bd_len (d := d) h2
  have hl := (List.getElem?_eq_some_iff.1 hK).1
  obtain ⟨s, hs⟩ : ∃ s, ss[K]? = some s := ⟨ss[K]'(by omega), List.getElem?_eq_getElem _⟩
  refine ⟨?_, World.ownsRow.frozenAt h2 (4 * K)⟩
  have := World.ownsRow.cells h2 (g := g) rfl (4 * K + 0) _ (flat_at .J l ss K nm x s hK hs 0 _ rfl)
  rw [Addr.add_mid, Nat.zero_add] at this
  exact this
end
section
open Go.RowKit
theorem one_u8x {a : Int} : ∀ u ∈ [Value.int .u8 a], u.oneCell' = true := fun u hu => by
  rcases List.mem_singleton.1 hu with rfl
  rfl
theorem esc_take {x : List UInt8} {K : Nat} {Y : UInt8} (h : x[K]? = some Y) {E : List UInt8} (hE : esc Y = E) : 34 :: escs (x.take (K + 1)) = (34 :: escs (x.take K)) ++ E := by
  rw [List.take_add_one, h]
  simp [escs, hE]
theorem quote_any (x : List UInt8) (hx : x.length ≤ 1000) (hw : Wh x) (w : World) : Calls Tryz.prog 184 #[.string (bs x)] w fun e w' => e = .returned (.tuple #[.string (bs (quote x)), .bool true]) ∧ Below w.heap.size w w' := by
  have H1 := fun w => is1_any (bs x) (by rw [bs_size]; omega) w
  rw [bs_list, decide_eq_true hw] at H1
  have H1 := Lib.hid H1
  clear hw
  obtain ⟨i0, hi, iz0, iz1, iz2⟩ := hi_u8
  obtain ⟨T, hT⟩ : ∃ T, bs x = T := ⟨_, rfl⟩
  have HT := Lib.hid hT
  have hTs : T.size = x.length := by rw [← hT, bs_size]
  have HTs := Lib.hid hTs
  have hT1000 : T.size ≤ 1000 := by omega
  rw [hT] at H1 ⊢
  clear hT hTs
  go_enter Tryz.func184, Tryz.ntmps184
  go_wp2_with fail
  with_reducible refine (H1.out _).mono ?_
  rintro e w1 ⟨rfl, hw1⟩
  have hz1 := hw1.size
  obtain ⟨B0, hB0⟩ : ∃ b, b = w1.heap.size := ⟨_, rfl⟩
  have HB0 := Lib.hid hB0
  clear hB0
  go_wp2_with fail
  go_loopw [4, 14] (fun v i wr => ∃ K a N, K ≤ T.size ∧ v = a ∧ i = .int .i64 K ∧ Hid (wr.ownsRow B0 5 1 a N ((34 :: escs (x.take K)).map fun z => .int .u8 (z.toNat : Int))) ∧ Below w.heap.size w wr ∧ B0 ≤ wr.heap.size ∧ N ≤ 6 * K + 1) (fun _ i _ => T.size - (intOf i).toNat)
  case atStart =>
    refine ⟨0, _, 1, Nat.zero_le _, rfl, rfl, Lib.hid ⟨rfl, .inr ⟨w1.heap.size, 1, #[.int .u8 34], rfl, by have := HB0.out; omega, heap_alloc_last w1 _, Nat.le_refl _, by decide, rfl, rfl⟩⟩, bel, by have := HB0.out; simp; omega, by omega⟩
  case round =>
    obtain ⟨K, v, N, hK, rfl, rfl, HO, hwr, hBr, hN⟩ := hrel
    have hzr := hwr.size
    have hB0 := HB0.out
    by_cases hKs : K < T.size
    · obtain ⟨Y, hY⟩ : ∃ Y, T[K]'hKs = Y := ⟨_, rfl⟩
      have hat : x[K]? = some Y := by
        have h := str_at T K hKs
        have e : T.data.toList = x := by rw [← HT.out, bs_list]
        rw [e] at h
        rw [h, hY]
      have hesc := fun E (hE : esc Y = E) => esc_take hat hE
      have H2 : Hid (∀ w : World, Calls Tryz.prog 249 #[.string { data := #[34, 92, 8, 12, 10, 13, 9] }, .int .u8 (Y.toNat : Int)] w fun e w' => e = .returned (.int .i64 (Lib.indexByte [34, 92, 8, 12, 10, 13, 9] Y)) ∧ w = w') := Lib.hid (fun w => by
        have h := Tryz.strings_IndexByte { data := #[34, 92, 8, 12, 10, 13, 9] } (Y.toNat : Int) w
        have hb : ((Y.toNat : Int)).toNat.toUInt8 = Y := by simp
        rw [hb] at h
        exact h.mono (fun e w' h => ⟨h.1, h.2.symm⟩))
      clear hat
      by_cases hc34 : Y = 34
      · subst hc34
        have H3 := H2.out
        have e3 : Lib.indexByte [34, 92, 8, 12, 10, 13, 9] 34 = 0 := by decide
        rw [e3] at H3
        replace H3 : Hid (∀ w : World, Calls Tryz.prog 249 #[.string { data := #[34, 92, 8, 12, 10, 13, 9] }, .int .u8 34] w fun e w' => e = .returned (.int .i64 0) ∧ w = w') := H3
        have hst : 34 :: escs (x.take (K + 1)) = (34 :: escs (x.take K)) ++ [92, 34] := hesc _ rfl
        have hYn : ((T[K]'hKs).toNat : Int) = 34 := by rw [hY]; rfl
        clear hY e3 hesc
        go_wp2_with fail
        with_reducible refine (H3.out _).mono ?_
        rintro e w' ⟨rfl, rfl⟩
        go_wp2_with (at_builtin; go_loud (refine wpList_append_lies _ rfl _ _ 24 rfl B0 5 i0 _ 1 1 Tryz.underlying24 hi iz0 iz1 iz2 rfl (by decide) _ N _ rfl (World.ownsRow.alloc HO.out _) ⟨wr.heap.size, 0, none⟩ 2 2 [.int .u8 92, .int .u8 34] rfl rfl (World.news_of_block (cs := #[.int .u8 92, .int .u8 34]) (heap_alloc_last wr _)) two_u8 (by decide) (by unfold maxLen; omega) (by omega) (by simp; omega) _ rfl ?_; intro g7 cap7 w7 hown7 hgrow7 hat7 hlt7))
        have hw7 : Below w.heap.size w w7 := Below.grown bel hgrow7 (by simp; omega) (fun k hk => by have := (HO.out.lt k hk).1; omega)
        have HO7 : Hid (w7.ownsRow B0 5 1 (.slice (some ⟨g7, 0, none⟩) (N + 2) cap7) (N + 2) ((34 :: escs (x.take (K + 1))).map fun z => .int .u8 (z.toNat : Int))) := Lib.hid (by rw [hst]; rw [List.map_append] ; exact hown7)
        have hz7 := hw7.size
        have hB7 : B0 ≤ w7.heap.size := by have := hgrow7.size; first | omega | (simp at this; omega)
        clear hgrow7 hat7 hown7
        go_wp2_with fail
        go_roundw
        case rel => exact ⟨K + 1, _, N + 2, by omega, rfl, by go_num, HO7, hw7, by omega, by omega⟩
        case measure => simp [intOf]; omega
      by_cases hc92 : Y = 92
      · subst hc92
        have H3 := H2.out
        have e3 : Lib.indexByte [34, 92, 8, 12, 10, 13, 9] 92 = 1 := by decide
        rw [e3] at H3
        replace H3 : Hid (∀ w : World, Calls Tryz.prog 249 #[.string { data := #[34, 92, 8, 12, 10, 13, 9] }, .int .u8 92] w fun e w' => e = .returned (.int .i64 1) ∧ w = w') := H3
        have hst : 34 :: escs (x.take (K + 1)) = (34 :: escs (x.take K)) ++ [92, 92] := hesc _ rfl
        have hYn : ((T[K]'hKs).toNat : Int) = 92 := by rw [hY]; rfl
        clear hY e3 hesc
        go_wp2_with fail
        with_reducible refine (H3.out _).mono ?_
        rintro e w' ⟨rfl, rfl⟩
        go_wp2_with (at_builtin; go_loud (refine wpList_append_lies _ rfl _ _ 24 rfl B0 5 i0 _ 1 1 Tryz.underlying24 hi iz0 iz1 iz2 rfl (by decide) _ N _ rfl (World.ownsRow.alloc HO.out _) ⟨wr.heap.size, 0, none⟩ 2 2 [.int .u8 92, .int .u8 92] rfl rfl (World.news_of_block (cs := #[.int .u8 92, .int .u8 92]) (heap_alloc_last wr _)) two_u8 (by decide) (by unfold maxLen; omega) (by omega) (by simp; omega) _ rfl ?_; intro g7 cap7 w7 hown7 hgrow7 hat7 hlt7))
        have hw7 : Below w.heap.size w w7 := Below.grown bel hgrow7 (by simp; omega) (fun k hk => by have := (HO.out.lt k hk).1; omega)
        have HO7 : Hid (w7.ownsRow B0 5 1 (.slice (some ⟨g7, 0, none⟩) (N + 2) cap7) (N + 2) ((34 :: escs (x.take (K + 1))).map fun z => .int .u8 (z.toNat : Int))) := Lib.hid (by rw [hst]; rw [List.map_append] ; exact hown7)
        have hz7 := hw7.size
        have hB7 : B0 ≤ w7.heap.size := by have := hgrow7.size; first | omega | (simp at this; omega)
        clear hgrow7 hat7 hown7
        go_wp2_with fail
        go_roundw
        case rel => exact ⟨K + 1, _, N + 2, by omega, rfl, by go_num, HO7, hw7, by omega, by omega⟩
        case measure => simp [intOf]; omega
      by_cases hc8 : Y = 8
      · subst hc8
        have H3 := H2.out
        have e3 : Lib.indexByte [34, 92, 8, 12, 10, 13, 9] 8 = 2 := by decide
        rw [e3] at H3
        replace H3 : Hid (∀ w : World, Calls Tryz.prog 249 #[.string { data := #[34, 92, 8, 12, 10, 13, 9] }, .int .u8 8] w fun e w' => e = .returned (.int .i64 2) ∧ w = w') := H3
        have hst : 34 :: escs (x.take (K + 1)) = (34 :: escs (x.take K)) ++ [92, 98] := hesc _ rfl
        have hYn : ((T[K]'hKs).toNat : Int) = 8 := by rw [hY]; rfl
        clear hY e3 hesc
        go_wp2_with fail
        with_reducible refine (H3.out _).mono ?_
        rintro e w' ⟨rfl, rfl⟩
        go_wp2_with (at_builtin; go_loud (refine wpList_append_lies _ rfl _ _ 24 rfl B0 5 i0 _ 1 1 Tryz.underlying24 hi iz0 iz1 iz2 rfl (by decide) _ N _ rfl (World.ownsRow.alloc HO.out _) ⟨wr.heap.size, 0, none⟩ 2 2 [.int .u8 92, .int .u8 98] rfl rfl (World.news_of_block (cs := #[.int .u8 92, .int .u8 98]) (heap_alloc_last wr _)) two_u8 (by decide) (by unfold maxLen; omega) (by omega) (by simp; omega) _ rfl ?_; intro g7 cap7 w7 hown7 hgrow7 hat7 hlt7))
        have hw7 : Below w.heap.size w w7 := Below.grown bel hgrow7 (by simp; omega) (fun k hk => by have := (HO.out.lt k hk).1; omega)
        have HO7 : Hid (w7.ownsRow B0 5 1 (.slice (some ⟨g7, 0, none⟩) (N + 2) cap7) (N + 2) ((34 :: escs (x.take (K + 1))).map fun z => .int .u8 (z.toNat : Int))) := Lib.hid (by rw [hst]; rw [List.map_append] ; exact hown7)
        have hz7 := hw7.size
        have hB7 : B0 ≤ w7.heap.size := by have := hgrow7.size; first | omega | (simp at this; omega)
        clear hgrow7 hat7 hown7
        go_wp2_with fail
        go_roundw
        case rel => exact ⟨K + 1, _, N + 2, by omega, rfl, by go_num, HO7, hw7, by omega, by omega⟩
        case measure => simp [intOf]; omega
      by_cases hc12 : Y = 12
      · subst hc12
        have H3 := H2.out
        have e3 : Lib.indexByte [34, 92, 8, 12, 10, 13, 9] 12 = 3 := by decide
        rw [e3] at H3
        replace H3 : Hid (∀ w : World, Calls Tryz.prog 249 #[.string { data := #[34, 92, 8, 12, 10, 13, 9] }, .int .u8 12] w fun e w' => e = .returned (.int .i64 3) ∧ w = w') := H3
        have hst : 34 :: escs (x.take (K + 1)) = (34 :: escs (x.take K)) ++ [92, 102] := hesc _ rfl
        have hYn : ((T[K]'hKs).toNat : Int) = 12 := by rw [hY]; rfl
        clear hY e3 hesc
        go_wp2_with fail
        with_reducible refine (H3.out _).mono ?_
        rintro e w' ⟨rfl, rfl⟩
        go_wp2_with (at_builtin; go_loud (refine wpList_append_lies _ rfl _ _ 24 rfl B0 5 i0 _ 1 1 Tryz.underlying24 hi iz0 iz1 iz2 rfl (by decide) _ N _ rfl (World.ownsRow.alloc HO.out _) ⟨wr.heap.size, 0, none⟩ 2 2 [.int .u8 92, .int .u8 102] rfl rfl (World.news_of_block (cs := #[.int .u8 92, .int .u8 102]) (heap_alloc_last wr _)) two_u8 (by decide) (by unfold maxLen; omega) (by omega) (by simp; omega) _ rfl ?_; intro g7 cap7 w7 hown7 hgrow7 hat7 hlt7))
        have hw7 : Below w.heap.size w w7 := Below.grown bel hgrow7 (by simp; omega) (fun k hk => by have := (HO.out.lt k hk).1; omega)
        have HO7 : Hid (w7.ownsRow B0 5 1 (.slice (some ⟨g7, 0, none⟩) (N + 2) cap7) (N + 2) ((34 :: escs (x.take (K + 1))).map fun z => .int .u8 (z.toNat : Int))) := Lib.hid (by rw [hst]; rw [List.map_append] ; exact hown7)
        have hz7 := hw7.size
        have hB7 : B0 ≤ w7.heap.size := by have := hgrow7.size; first | omega | (simp at this; omega)
        clear hgrow7 hat7 hown7
        go_wp2_with fail
        go_roundw
        case rel => exact ⟨K + 1, _, N + 2, by omega, rfl, by go_num, HO7, hw7, by omega, by omega⟩
        case measure => simp [intOf]; omega
      by_cases hc10 : Y = 10
      · subst hc10
        have H3 := H2.out
        have e3 : Lib.indexByte [34, 92, 8, 12, 10, 13, 9] 10 = 4 := by decide
        rw [e3] at H3
        replace H3 : Hid (∀ w : World, Calls Tryz.prog 249 #[.string { data := #[34, 92, 8, 12, 10, 13, 9] }, .int .u8 10] w fun e w' => e = .returned (.int .i64 4) ∧ w = w') := H3
        have hst : 34 :: escs (x.take (K + 1)) = (34 :: escs (x.take K)) ++ [92, 110] := hesc _ rfl
        have hYn : ((T[K]'hKs).toNat : Int) = 10 := by rw [hY]; rfl
        clear hY e3 hesc
        go_wp2_with fail
        with_reducible refine (H3.out _).mono ?_
        rintro e w' ⟨rfl, rfl⟩
        go_wp2_with (at_builtin; go_loud (refine wpList_append_lies _ rfl _ _ 24 rfl B0 5 i0 _ 1 1 Tryz.underlying24 hi iz0 iz1 iz2 rfl (by decide) _ N _ rfl (World.ownsRow.alloc HO.out _) ⟨wr.heap.size, 0, none⟩ 2 2 [.int .u8 92, .int .u8 110] rfl rfl (World.news_of_block (cs := #[.int .u8 92, .int .u8 110]) (heap_alloc_last wr _)) two_u8 (by decide) (by unfold maxLen; omega) (by omega) (by simp; omega) _ rfl ?_; intro g7 cap7 w7 hown7 hgrow7 hat7 hlt7))
        have hw7 : Below w.heap.size w w7 := Below.grown bel hgrow7 (by simp; omega) (fun k hk => by have := (HO.out.lt k hk).1; omega)
        have HO7 : Hid (w7.ownsRow B0 5 1 (.slice (some ⟨g7, 0, none⟩) (N + 2) cap7) (N + 2) ((34 :: escs (x.take (K + 1))).map fun z => .int .u8 (z.toNat : Int))) := Lib.hid (by rw [hst]; rw [List.map_append] ; exact hown7)
        have hz7 := hw7.size
        have hB7 : B0 ≤ w7.heap.size := by have := hgrow7.size; first | omega | (simp at this; omega)
        clear hgrow7 hat7 hown7
        go_wp2_with fail
        go_roundw
        case rel => exact ⟨K + 1, _, N + 2, by omega, rfl, by go_num, HO7, hw7, by omega, by omega⟩
        case measure => simp [intOf]; omega
      by_cases hc13 : Y = 13
      · subst hc13
        have H3 := H2.out
        have e3 : Lib.indexByte [34, 92, 8, 12, 10, 13, 9] 13 = 5 := by decide
        rw [e3] at H3
        replace H3 : Hid (∀ w : World, Calls Tryz.prog 249 #[.string { data := #[34, 92, 8, 12, 10, 13, 9] }, .int .u8 13] w fun e w' => e = .returned (.int .i64 5) ∧ w = w') := H3
        have hst : 34 :: escs (x.take (K + 1)) = (34 :: escs (x.take K)) ++ [92, 114] := hesc _ rfl
        have hYn : ((T[K]'hKs).toNat : Int) = 13 := by rw [hY]; rfl
        clear hY e3 hesc
        go_wp2_with fail
        with_reducible refine (H3.out _).mono ?_
        rintro e w' ⟨rfl, rfl⟩
        go_wp2_with (at_builtin; go_loud (refine wpList_append_lies _ rfl _ _ 24 rfl B0 5 i0 _ 1 1 Tryz.underlying24 hi iz0 iz1 iz2 rfl (by decide) _ N _ rfl (World.ownsRow.alloc HO.out _) ⟨wr.heap.size, 0, none⟩ 2 2 [.int .u8 92, .int .u8 114] rfl rfl (World.news_of_block (cs := #[.int .u8 92, .int .u8 114]) (heap_alloc_last wr _)) two_u8 (by decide) (by unfold maxLen; omega) (by omega) (by simp; omega) _ rfl ?_; intro g7 cap7 w7 hown7 hgrow7 hat7 hlt7))
        have hw7 : Below w.heap.size w w7 := Below.grown bel hgrow7 (by simp; omega) (fun k hk => by have := (HO.out.lt k hk).1; omega)
        have HO7 : Hid (w7.ownsRow B0 5 1 (.slice (some ⟨g7, 0, none⟩) (N + 2) cap7) (N + 2) ((34 :: escs (x.take (K + 1))).map fun z => .int .u8 (z.toNat : Int))) := Lib.hid (by rw [hst]; rw [List.map_append] ; exact hown7)
        have hz7 := hw7.size
        have hB7 : B0 ≤ w7.heap.size := by have := hgrow7.size; first | omega | (simp at this; omega)
        clear hgrow7 hat7 hown7
        go_wp2_with fail
        go_roundw
        case rel => exact ⟨K + 1, _, N + 2, by omega, rfl, by go_num, HO7, hw7, by omega, by omega⟩
        case measure => simp [intOf]; omega
      by_cases hc9 : Y = 9
      · subst hc9
        have H3 := H2.out
        have e3 : Lib.indexByte [34, 92, 8, 12, 10, 13, 9] 9 = 6 := by decide
        rw [e3] at H3
        replace H3 : Hid (∀ w : World, Calls Tryz.prog 249 #[.string { data := #[34, 92, 8, 12, 10, 13, 9] }, .int .u8 9] w fun e w' => e = .returned (.int .i64 6) ∧ w = w') := H3
        have hst : 34 :: escs (x.take (K + 1)) = (34 :: escs (x.take K)) ++ [92, 116] := hesc _ rfl
        have hYn : ((T[K]'hKs).toNat : Int) = 9 := by rw [hY]; rfl
        clear hY e3 hesc
        go_wp2_with fail
        with_reducible refine (H3.out _).mono ?_
        rintro e w' ⟨rfl, rfl⟩
        go_wp2_with (at_builtin; go_loud (refine wpList_append_lies _ rfl _ _ 24 rfl B0 5 i0 _ 1 1 Tryz.underlying24 hi iz0 iz1 iz2 rfl (by decide) _ N _ rfl (World.ownsRow.alloc HO.out _) ⟨wr.heap.size, 0, none⟩ 2 2 [.int .u8 92, .int .u8 116] rfl rfl (World.news_of_block (cs := #[.int .u8 92, .int .u8 116]) (heap_alloc_last wr _)) two_u8 (by decide) (by unfold maxLen; omega) (by omega) (by simp; omega) _ rfl ?_; intro g7 cap7 w7 hown7 hgrow7 hat7 hlt7))
        have hw7 : Below w.heap.size w w7 := Below.grown bel hgrow7 (by simp; omega) (fun k hk => by have := (HO.out.lt k hk).1; omega)
        have HO7 : Hid (w7.ownsRow B0 5 1 (.slice (some ⟨g7, 0, none⟩) (N + 2) cap7) (N + 2) ((34 :: escs (x.take (K + 1))).map fun z => .int .u8 (z.toNat : Int))) := Lib.hid (by rw [hst]; rw [List.map_append] ; exact hown7)
        have hz7 := hw7.size
        have hB7 : B0 ≤ w7.heap.size := by have := hgrow7.size; first | omega | (simp at this; omega)
        clear hgrow7 hat7 hown7
        go_wp2_with fail
        go_roundw
        case rel => exact ⟨K + 1, _, N + 2, by omega, rfl, by go_num, HO7, hw7, by omega, by omega⟩
        case measure => simp [intOf]; omega

      have hno : escTo Y = none := by unfold escTo; rw [if_neg hc34, if_neg hc92, if_neg hc8, if_neg hc12, if_neg hc10, if_neg hc13, if_neg hc9]
      have e3 : Lib.indexByte [34, 92, 8, 12, 10, 13, 9] Y = -1 := by
        have hge := Lib.indexByte_ge [34, 92, 8, 12, 10, 13, 9] Y
        rcases (show Lib.indexByte [34, 92, 8, 12, 10, 13, 9] Y = -1 ∨ 0 ≤ Lib.indexByte [34, 92, 8, 12, 10, 13, 9] Y by omega) with h | h
        · exact h
        · obtain ⟨o, ho⟩ := Int.eq_ofNat_of_zero_le h
          have hm := List.mem_of_getElem? (Lib.indexByte_some ho).1
          simp only [List.mem_cons, List.not_mem_nil, or_false] at hm
          rcases hm with h | h | h | h | h | h | h
          · exact absurd h hc34
          · exact absurd h hc92
          · exact absurd h hc8
          · exact absurd h hc12
          · exact absurd h hc10
          · exact absurd h hc13
          · exact absurd h hc9
      have H3 := H2.out
      rw [e3] at H3
      have H3 := Lib.hid H3
      by_cases h32 : Y.toNat < 32
      · have hst : 34 :: escs (x.take (K + 1)) = (34 :: escs (x.take K)) ++ [92, 117, 48, 48, hexD (Y.toNat / 16), hexD (Y.toNat % 16)] := hesc _ (by unfold esc; rw [hno]; exact if_pos h32)
        obtain ⟨h1, e1⟩ : ∃ h, hexD (Y.toNat / 16) = h := ⟨_, rfl⟩
        obtain ⟨h2, e2⟩ : ∃ h, hexD (Y.toNat % 16) = h := ⟨_, rfl⟩
        have HX := fun a c w ha hc => hexa1_any Y h32 a c w ha hc
        rw [e1, e2] at HX hst
        have HX := Lib.hid HX
        clear hesc hno e3 e1 e2 hc34 hc92 hc8 hc12 hc10 hc13 hc9 H2
        go_wp2_with fail
        with_reducible refine (H3.out _).mono ?_
        rintro e w' ⟨rfl, rfl⟩
        go_wp2_with (at_builtin; go_loud (refine Lib.wpList_append_own_string _ rfl _ _ 24 9 rfl B0 5 i0 Tryz.underlying24 ty_str hi iz0 iz1 iz2 _ N _ rfl HO.out { data := #[92, 117, 48, 48] } rfl (by unfold maxLen; show N + 4 ≤ _; omega) (by show N + 4 ≤ _; omega) hBr ?_; intro v5 w5 hown5 hgrow5 hnil5))
        have hw5 : Below w.heap.size w w5 := Below.grown hwr hgrow5 (by omega) (fun k hk => by have := (HO.out.lt k hk).1; omega)
        have hz5 := hw5.size
        have hB5 : B0 ≤ w5.heap.size := by have := hgrow5.size; omega
        replace hown5 := Lib.hid hown5
        clear hgrow5 hnil5
        with_reducible refine (HX.out _ _ _ (by simp) (by simp [go_sem])).mono ?_
        rintro e w6 ⟨rfl, hb6⟩
        have hw6 := bwB hb6 w.heap.size w
        have hb56 := bwB hb6 w5.heap.size w5
        have hown6 := Lib.hid (ownsRow_keeps hown5.out (fun g hg => hb56.block g (World.ownsRow.lt hown5.out g hg).2))
        have hz6 := hw6.size
        have hB6 : B0 ≤ w6.heap.size := by have := hb6.size; simp at this; omega
        clear hb6
        go_wp2_with (at_builtin; go_loud (refine Lib.wpList_append_own_string _ rfl _ _ 24 9 rfl B0 5 i0 Tryz.underlying24 ty_str hi iz0 iz1 iz2 _ (N + 4) _ rfl hown6.out (bs [h1, h2]) rfl (by unfold maxLen; show N + 4 + 2 ≤ _; omega) (by show N + 4 + 2 ≤ _; omega) hB6 ?_; intro v7 w7 hown7 hgrow7 hnil7))
        have hw7 : Below w.heap.size w w7 := Below.grown hw6 hgrow7 hz6 (fun k hk => by have := (World.ownsRow.lt hown6.out k hk).1; omega)
        have HO7 : Hid (w7.ownsRow B0 5 1 v7 (N + 4 + 2) ((34 :: escs (x.take (K + 1))).map fun z => .int .u8 (z.toNat : Int))) := Lib.hid (by rw [hst, List.map_append]; have e : ∀ (a b c : List Value), a ++ b ++ c = a ++ (b ++ c) := List.append_assoc; rw [e] at hown7; exact hown7)
        have hz7 := hw7.size
        have hB7 : B0 ≤ w7.heap.size := by have := hgrow7.size; omega
        clear hgrow7 hown7 hb56
        go_wp2_with fail
        go_roundw
        case rel => exact ⟨K + 1, _, N + 4 + 2, by omega, rfl, by go_num, HO7, hw7, hB7, by omega⟩
        case measure => simp [intOf]; omega
      · have hst : 34 :: escs (x.take (K + 1)) = (34 :: escs (x.take K)) ++ [Y] := hesc _ (by unfold esc; rw [hno]; exact if_neg h32)
        have h32' : ¬ ((Y.toNat : Int) < 32) := by omega
        clear hesc hno e3 hc34 hc92 hc8 hc12 hc10 hc13 hc9 H2
        go_wp2_with fail
        with_reducible refine (H3.out _).mono ?_
        rintro e w' ⟨rfl, rfl⟩
        go_wp2_with (at_builtin; go_loud (refine wpList_append_lies _ rfl _ _ 24 rfl B0 5 i0 _ 1 1 Tryz.underlying24 hi iz0 iz1 iz2 rfl (by decide) _ N _ rfl (World.ownsRow.alloc HO.out _) ⟨wr.heap.size, 0, none⟩ 1 1 [.int .u8 (Y.toNat : Int)] rfl rfl (World.news_of_block (cs := #[.int .u8 (Y.toNat : Int)]) (heap_alloc_last wr _)) one_u8x (by decide) (by unfold maxLen; omega) (by omega) (by simp; omega) _ rfl ?_; intro g7 cap7 w7 hown7 hgrow7 hat7 hlt7))
        have hw7 : Below w.heap.size w w7 := Below.grown bel hgrow7 (by simp; omega) (fun k hk => by have := (HO.out.lt k hk).1; omega)
        have HO7 : Hid (w7.ownsRow B0 5 1 (.slice (some ⟨g7, 0, none⟩) (N + 1) cap7) (N + 1) ((34 :: escs (x.take (K + 1))).map fun z => .int .u8 (z.toNat : Int))) := Lib.hid (by rw [hst]; rw [List.map_append] ; exact hown7)
        have hz7 := hw7.size
        have hB7 : B0 ≤ w7.heap.size := by have := hgrow7.size; first | omega | (simp at this; omega)
        clear hgrow7 hat7 hown7
        go_wp2_with fail
        go_roundw
        case rel => exact ⟨K + 1, _, N + 1, by omega, rfl, by go_num, HO7, hw7, by omega, by omega⟩
        case measure => simp [intOf]; omega
    · have hKe : K = T.size := by omega
      have hql : (34 :: escs (x.take K)) ++ [34] = quote x := by
        rw [List.take_of_length_le (by have := HTs.out; omega)]; rfl
      clear hKs
      subst hKe
      go_wp2_with (at_builtin; go_loud (refine wpList_append_lies _ rfl _ _ 24 rfl B0 5 i0 _ 1 1 Tryz.underlying24 hi iz0 iz1 iz2 rfl (by decide) _ N _ rfl (World.ownsRow.alloc HO.out _) ⟨wr.heap.size, 0, none⟩ 1 1 [.int .u8 34] rfl rfl (World.news_of_block (cs := #[.int .u8 34]) (heap_alloc_last wr _)) one_u8x (by decide) (by unfold maxLen; omega) (by omega) (by simp; omega) _ rfl ?_; intro g7 cap7 w7 hown7 hgrow7 hat7 hlt7; have hcv := conv_back (quote x) hown7 (by rw [← hql, List.map_append]; rfl)))
      have hw7 : Below w.heap.size w w7 := Below.grown bel hgrow7 (by simp; omega) (fun k hk => by have := (HO.out.lt k hk).1; omega)
      clear hgrow7 hat7 hown7
      go_ret2
      exact ⟨rfl, hw7⟩
end
section
open Go.RowKit
structure Ow (e : TypeId) (w0 w : World) (B : Nat) (v0 v : Value) (n : Nat) (xs : List Value) : Prop where
  own : w.ownsRow B e 1 v n xs
  grown : w0.grownBy w v0.ownBlock
  at' : ∀ g, v.ownBlock = some g → v0.ownBlock = some g ∨ w0.heap.size ≤ g
theorem Ow.refl {e : TypeId} {w : World} {B : Nat} {v : Value} {n : Nat} {xs : List Value} (h : w.ownsRow B e 1 v n xs) : Ow e w w B v v n xs :=
  ⟨h, ⟨rfl, rfl, rfl, Nat.le_refl _, fun _ _ _ => rfl⟩, fun g hg => .inl hg⟩
theorem Ow.trans {e : TypeId} {w0 w w' : World} {B B' : Nat} {v0 v v' : Value} {n n' : Nat} {xs xs' : List Value} (h : Ow e w0 w B v0 v n xs) (k : Ow e w w' B' v v' n' xs') : Ow e w0 w' B' v0 v' n' xs' := by
  refine ⟨k.own, ⟨k.grown.os.trans h.grown.os, k.grown.tape.trans h.grown.tape, k.grown.output.trans h.grown.output, Nat.le_trans h.grown.size k.grown.size, fun b hb hr => ?_⟩, fun g hg => ?_⟩
  · refine (k.grown.block b (Nat.lt_of_lt_of_le hb h.grown.size) (fun e => ?_)).trans (h.grown.block b hb hr)
    rcases h.at' b e.symm with h' | h'
    · exact hr h'.symm
    · omega
  · rcases k.at' g hg with h' | h'
    · exact h.at' g h'
    · exact .inr (Nat.le_trans h.grown.size h')
theorem Ow.beyond {e : TypeId} {w0 w w' : World} {B : Nat} {v0 v : Value} {n : Nat} {xs : List Value} (h : Ow e w0 w B v0 v n xs) (hb : Below w.heap.size w w') : Ow e w0 w' B v0 v n xs :=
  ⟨ownsRow_keeps h.own (fun g hg => hb.block g (World.ownsRow.lt h.own g hg).2), grown_trans h.grown (grown_below hb _), h.at'⟩
theorem Ow.before {e : TypeId} {w0 w1 w : World} {B : Nat} {v0 v : Value} {n : Nat} {xs : List Value} (h : Ow e w1 w B v0 v n xs) (hb : Below w0.heap.size w0 w1) : Ow e w0 w B v0 v n xs :=
  ⟨h.own, grown_trans (grown_below hb _) h.grown, fun g hg => (h.at' g hg).imp_right (fun h => Nat.le_trans hb.size h)⟩
theorem Ow.lies {e : TypeId} {w w' : World} {B : Nat} {v : Value} {n m g cap : Nat} {xs : List Value} (h : w'.ownsRow B e 1 (.slice (some ⟨g, 0, none⟩) m cap) n xs) (hg : w.grownBy w' v.ownBlock) (hat : v.ownBlock = some g ∨ g = w.heap.size) : Ow e w w' B v (.slice (some ⟨g, 0, none⟩) m cap) n xs :=
  ⟨h, hg, fun k hk => by
    have : g = k := by simpa [Value.ownBlock] using hk
    subst this
    exact hat.imp_right (fun h => by omega)⟩
theorem Ow.size {e : TypeId} {w0 w : World} {B : Nat} {v0 v : Value} {n : Nat} {xs : List Value} (h : Ow e w0 w B v0 v n xs) : w0.heap.size ≤ w.heap.size := h.grown.size
theorem Ow.cell {e : TypeId} {w0 w : World} {B : Nat} {v0 v : Value} {n : Nat} {xs : List Value} (h : Ow e w0 w B v0 v n xs) {b i : Nat} {u : Value} (hb : b < w0.heap.size) (hv : v0.ownBlock ≠ some b) (hu : w0.cell? ⟨b, i, none⟩ = some u) : w.cell? ⟨b, i, none⟩ = some u :=
  (World.cell?_of_block (a := ⟨b, i, none⟩) (h.grown.block b hb (fun e => hv e.symm))).trans hu
theorem Ow.keeps {e : TypeId} {w0 w : World} {B : Nat} {v0 v : Value} {n : Nat} {xs : List Value} (h : Ow e w0 w B v0 v n xs) : Keeps (fun b => v0.ownBlock ≠ some b) w0 w := keeps_grown h.grown (fun b hb _ => hb)
theorem Ow.is {e : TypeId} {L : Lay} {w0 w : World} {B : Nat} {v0 v : Value} {n : Nat} {xs : List Value} (h : Ow e w0 w B v0 v n xs) {k : Nat} {t : Ro} {a : Value} (hi : Is L (fun b => v0.ownBlock ≠ some b) w0 k t a) : Is L (fun b => v.ownBlock ≠ some b) w k t a := by
  have h1 := hi.mono (Q' := fun b => v0.ownBlock ≠ some b ∧ v.ownBlock ≠ some b) (fun b hb hl => ⟨hb, fun e => by
    rcases h.at' b e with h' | h'
    · exact hb h'
    · omega⟩)
  exact (h1.keeps (h.keeps.mono (fun b hb => hb.1))).mono (fun b hb _ => hb.2)
section
variable {P : Program}
open Go.Lib
theorem run_append_own_string_at (w : World) (B : Nat) (t u ty e : TypeId) (i : TypeInfo) (ht : P.underlying t = some (.slice e)) (hu : P.underlying u = some .string) (hi : P.info? e = some i) (hz : i.zero = some (.int .u8 0))
    (hsize : i.size = 1) (hby : i.bytes = 1) (v : Value) (n : Nat) (xs : List Value) (hown : w.ownsRow B e 1 v n xs) (s : ByteArray) (h0 : 0 < s.size)
    (h63 : n + s.size ≤ maxLen) (hbytes : n + s.size ≤ 140737488355328) (hbase : B ≤ w.heap.size) :
    ∃ g cap w', (Builtin.append_ #[t, u] ty #[v, .string s]).run P w = .ok (.slice (some ⟨g, 0, none⟩) (n + s.size) cap) w' ∧ Ow e w w' B v (.slice (some ⟨g, 0, none⟩) (n + s.size) cap) (n + s.size) (xs ++ strCells s) := by
  obtain ⟨v', w', hr, h2, h3, h4⟩ := run_append_own_string (P := P) w B t u ty e i ht hu hi hz hsize hby v n xs hown s h63 hbytes hbase
  obtain ⟨g, cap, rfl, hBg, hlt⟩ := h2.form (by omega)
  refine ⟨g, cap, w', hr, Ow.lies h2 h3 ?_⟩
  rcases hown.2 with ⟨rfl, rfl⟩ | ⟨g0, cap0, cur, rfl, hb0, hg0, hnc, hcm, hcs, htake⟩
  · have hr2 := run_append_nil_string (P := P) w t u ty e i (.int .u8 0) ht hu hi hz s h0 (by simp only [maxLen] at h63; omega) (by rw [hby]; omega)
    rw [hr] at hr2
    injection hr2 with e1 e2
    injection e1 with e1 _ e3
    injection e1 with e1
    injection e1 with e1
    exact .inr e1
  · have hcs' : cur.size = cap0 := by simpa using hcs
    by_cases hroom : n + s.size ≤ cap0
    · have hr2 := run_append_room_string (P := P) w t u ty e i ht hu hi hsize g0 n cap0 cur hg0 s hroom (by rw [hcs']; exact hroom)
      rw [hr] at hr2
      injection hr2 with e1 e2
      injection e1 with e1 _ e3
      injection e1 with e1
      injection e1 with e1
      left
      subst e1
      rfl
    · have holds : ∀ j y, xs[j]? = some y → w.cell? ((⟨g0, 0, none⟩ : Addr).add j) = some y := hown.cells (g := g0) rfl
      have hr2 := run_append_grow_string (P := P) w t u ty e i (.int .u8 0) ht hu hi hz ⟨g0, 0, none⟩ n cap0 xs (by rw [hsize]; exact hown.1) holds s (by omega) (by simp only [maxLen] at h63; omega) (by rw [hby]; exact growslice_fits (by omega) (by omega))
      rw [hr] at hr2
      injection hr2 with e1 e2
      injection e1 with e1 _ e3
      injection e1 with e1
      injection e1 with e1
      exact .inr e1
theorem wpList_append_ow_string (w : World) {ops : Array Oper} {rest : List Oper} {o : Oper} {a : Act} {Q : Exit → Act → World → Prop} (hgd : o.guard = none) (sl x : Operand) (t u : TypeId)
    (ho : o.op = .call { callee := .builtin .append, args := #[sl, x], argTypes := #[t, u] })
    (B : Nat) (e : TypeId) (i : TypeInfo) (ht : P.underlying t = some (.slice e)) (hu : P.underlying u = some .string) (hi : P.info? e = some i) (hz : i.zero = some (.int .u8 0))
    (hsize : i.size = 1) (hby : i.bytes = 1) (v : Value) (n : Nat) (xs : List Value) (hs : a.eval sl = v) (hown : w.ownsRow B e 1 v n xs) (s : ByteArray) (hx : a.eval x = .string s) (h0 : 0 < s.size)
    (h63 : n + s.size ≤ maxLen) (hbytes : n + s.size ≤ 140737488355328) (hbase : B ≤ w.heap.size)
    (h : ∀ g cap w', Ow e w w' B v (.slice (some ⟨g, 0, none⟩) (n + s.size) cap) (n + s.size) (xs ++ strCells s) → wpList P ops Q rest (a.put o.dst (.slice (some ⟨g, 0, none⟩) (n + s.size) cap)) w') : wpList P ops Q (o :: rest) a w := by
  refine wpList_plain hgd fun K hK => ?_
  obtain ⟨g, cap, w', hr, h2⟩ := run_append_own_string_at (P := P) w B t u o.type e i ht hu hi hz hsize hby v n xs hown s h0 h63 hbytes hbase
  unfold Oper.wp execOp
  simp only [ho, resolve, invoke, builtin, Sem.run_bind, Sem.run_pure, Result.andThen_ok, List.map_toArray, List.map_cons, List.map_nil, hs, hx, hr]
  exact hK _ _ (h g cap w' h2)
end
end
section
open Go
theorem run_append_two {P : Program} (w : World) (t u ty e e' : TypeId) (ht : P.underlying t = some (.slice e)) (hu : P.underlying u = some (.slice e')) (v x : Value) :
    (Builtin.append_ #[t, u] ty #[v, x]).run P w = (Builtin.append_ #[t, t] ty #[v, x]).run P w := by
  cases v <;> simp [Builtin.append_, run_underlying ht, run_underlying hu]
theorem wpList_append_two {P : Program} {w : World} {ops : Array Oper} {rest : List Oper} {o : Oper} {a : Act} {Q : Exit → Act → World → Prop} (hgd : o.guard = none) (s x : Operand) (t u : TypeId)
    (ho : o.op = .call { callee := .builtin .append, args := #[s, x], argTypes := #[t, u] })
    (base : Nat) (e e' : TypeId) (i : TypeInfo) (z : Value) (size bytes : Nat) (ht : P.underlying t = some (.slice e)) (hu : P.underlying u = some (.slice e')) (hi : P.info? e = some i) (hz : i.zero = some z)
    (hsize : i.size = size) (hby : i.bytes = bytes) (hzs : z.cells.size = size) (hsz : 0 < size)
    (v : Value) (n : Nat) (xs : List Value) (hs : a.eval s = v) (hown : w.ownsRow base e size v n xs)
    (ad : Addr) (m c : Nat) (news : List Value) (hx : a.eval x = .slice (some ad) m c) (hl : news.length = m * size) (hnews : ∀ j u, news[j]? = some u → w.cell? (ad.add j) = some u) (h1 : ∀ u ∈ news, u.oneCell' = true)
    (h63 : n + m ≤ maxLen) (hbytes : (n + m) * bytes ≤ 140737488355328) (hbase : base ≤ w.heap.size)
    (h : ∀ v' w', w'.ownsRow base e size v' (n + m) (xs ++ news) → w.grownBy w' v.ownBlock → (v' = .slice none 0 0 ↔ v = .slice none 0 0 ∧ m = 0) → wpList P ops Q rest (a.put o.dst v') w') : wpList P ops Q (o :: rest) a w := by
  refine wpList_plain hgd fun K hK => ?_
  obtain ⟨v', w', hr, h2, h3, h4⟩ := run_append_own (P := P) w base t o.type e i z size bytes ht hi hz hsize hby hzs hsz v n xs hown ad m c news hl hnews h1 h63 hbytes hbase
  rw [← run_append_two w t u o.type e e' ht hu] at hr
  unfold Oper.wp execOp
  simp only [ho, resolve, invoke, builtin, Sem.run_bind, Sem.run_pure, Result.andThen_ok, List.map_toArray, List.map_cons, List.map_nil, hs, hx, hr]
  exact hK _ _ (h v' w' h2 h3 h4)
theorem run_append_cap {P : Program} (w : World) (t ty e : TypeId) (ht : P.underlying t = some (.slice e)) (v : Value) (c : Nat) :
    (Builtin.append_ #[t, t] ty #[v, .slice none 0 c]).run P w = (Builtin.append_ #[t, t] ty #[v, .slice none 0 0]).run P w := by
  cases v <;> simp [Builtin.append_, run_underlying ht, Builtin.lenOf, Builtin.firstCells, Builtin.mayShare]
theorem wpList_append_two_any {P : Program} {w : World} {ops : Array Oper} {rest : List Oper} {o : Oper} {a : Act} {Q : Exit → Act → World → Prop} (hgd : o.guard = none) (s x : Operand) (t u : TypeId)
    (ho : o.op = .call { callee := .builtin .append, args := #[s, x], argTypes := #[t, u] })
    (base : Nat) (e e' : TypeId) (i : TypeInfo) (z : Value) (size bytes : Nat) (ht : P.underlying t = some (.slice e)) (hu : P.underlying u = some (.slice e')) (hi : P.info? e = some i) (hz : i.zero = some z)
    (hsize : i.size = size) (hby : i.bytes = bytes) (hzs : z.cells.size = size) (hsz : 0 < size)
    (v : Value) (n : Nat) (xs : List Value) (hs : a.eval s = v) (hown : w.ownsRow base e size v n xs)
    (ad : Option Addr) (m c : Nat) (news : List Value) (hx : a.eval x = .slice ad m c) (hl : news.length = m * size) (hnews : ∀ j u, news[j]? = some u → ∃ b, ad = some b ∧ w.cell? (b.add j) = some u) (h1 : ∀ u ∈ news, u.oneCell' = true)
    (h63 : n + m ≤ maxLen) (hbytes : (n + m) * bytes ≤ 140737488355328) (hbase : base ≤ w.heap.size)
    (h : ∀ v' w', w'.ownsRow base e size v' (n + m) (xs ++ news) → w.grownBy w' v.ownBlock → wpList P ops Q rest (a.put o.dst v') w') : wpList P ops Q (o :: rest) a w := by
  rcases ad with _ | b
  · have hm : m * size = 0 := by
      rcases Nat.eq_zero_or_pos (m * size) with h | h
      · exact h
      · have hj : news[0]? = some (news[0]'(by omega)) := List.getElem?_eq_getElem (by omega)
        obtain ⟨b, hb, _⟩ := hnews 0 _ hj
        cases hb
    have hm0 : m = 0 := by
      rcases Nat.mul_eq_zero.1 hm with h | h
      · exact h
      · omega
    have hn : news = [] := List.eq_nil_of_length_eq_zero (by omega)
    subst hm0 hn
    refine wpList_plain hgd fun K hK => ?_
    have hrun := run_append_owned_none (P := P) (w := w) base t o.type e i size ht hi v n xs hown
    rw [← run_append_cap w t o.type e ht v c, ← run_append_two w t u o.type e e' ht hu] at hrun
    unfold Oper.wp execOp
    simp only [ho, resolve, invoke, builtin, Sem.run_bind, Sem.run_pure, Result.andThen_ok, List.map_toArray, List.map_cons, List.map_nil, hs, hx, hrun]
    exact hK _ _ (h v w (by rw [Nat.add_zero, List.append_nil]; exact hown) ⟨rfl, rfl, rfl, Nat.le_refl _, fun _ _ _ => rfl⟩)
  · exact wpList_append_two hgd s x t u ho base e e' i z size bytes ht hu hi hz hsize hby hzs hsz v n xs hs hown b m c news hx hl (fun j u hj => by
      obtain ⟨b', hb, hc⟩ := hnews j u hj
      cases hb
      exact hc) h1 h63 hbytes hbase (fun v' w' h2 h3 _ => h v' w' h2 h3)
end
section
open Go.RowKit
theorem cut_once {K : World → Nat → Nat → Prop} {G : Prop} (H : World → Nat → Nat → Prop) (key : (∀ w7 g7 cap7, H w7 g7 cap7 → K w7 g7 cap7) → G) (pf : ∀ w7 g7 cap7, H w7 g7 cap7 → K w7 g7 cap7) : G := key pf
theorem cut_w6 {K : World → Nat → Nat → World → Prop} {G : Prop} (H : World → Nat → Nat → World → Prop) (key : (∀ w7 g7 cap7 w6, H w7 g7 cap7 w6 → K w7 g7 cap7 w6) → G) (pf : ∀ w7 g7 cap7 w6, H w7 g7 cap7 w6 → K w7 g7 cap7 w6) : G := key pf
end
section
open Go.RowKit
theorem flat_setV : ∀ (l : List (List UInt8 × Ro)) (ss : List (Value × Value)) (K : Nat) (nm nm' : List UInt8) (x : Ro), ss.length = l.length → l[K]? = some (nm, x) → flat .V (l.set K (nm', x)) ss = (flat .V l ss).set (10 * K) (.string (bs nm'))
  | [], _, K, _, _, _, _, h => by cases h
  | _ :: _, [], _, _, _, _, h, _ => by cases h
  | (n0, x0) :: l, s :: ss, 0, nm, nm', x, _, h => by
    have e : (n0, x0) = (nm, x) := Option.some.inj h
    injection e with e1 e2
    subst e1 e2
    rfl
  | (n0, x0) :: l, s :: ss, K + 1, nm, nm', x, hl, h => by
    have ih := flat_setV l ss K nm nm' x (by simpa using hl) (by simpa using h)
    show Lay.row .V n0 x0.o s.1 s.2 ++ flat .V (l.set K (nm', x)) ss = (Lay.row .V n0 x0.o s.1 s.2 ++ flat .V l ss).set (10 * (K + 1)) _
    rw [ih, List.set_append_right _ _ (by rw [Lay.row_length]; show 10 ≤ _; omega), Lay.row_length]
    show _ = _ ++ (flat .V l ss).set (10 * (K + 1) - 10) _
    rw [show 10 * (K + 1) - 10 = 10 * K by omega]
theorem bd_lenV {T : TypeId} {w : World} {base d g n c : Nat} {l : List (List UInt8 × Ro)} {ss : List (Value × Value)} (h : w.ownsRow base T (Lay.wid .V) (.slice (some ⟨g, 0, none⟩) n c) l.length (flat .V l ss)) : n = l.length := by
  rcases h.2 with ⟨h, _⟩ | ⟨g', cap, cur, hv, _⟩
  · cases h
  · injection hv
theorem bd_renameV {T : TypeId} {w : World} {base d g n c K : Nat} {l : List (List UInt8 × Ro)} {nm : List UInt8} {x : Ro} (h : Bd .V T w base d l (.slice (some ⟨g, 0, none⟩) n c)) (hK : l[K]? = some (nm, x)) (nm' : List UInt8) :
    Bd .V T (w.setCell ⟨g, 10 * K, none⟩ (.string (bs nm'))) base d (l.set K (nm', x)) (.slice (some ⟨g, 0, none⟩) n c) := by
  obtain ⟨ss, h1, h2, h3⟩ := h
  have hn := bd_lenV (d := d) h2
  subst hn
  have hk : Keeps (fun b => base ≤ b ∧ (Value.slice (some ⟨g, 0, none⟩) l.length c).ownBlock ≠ some b) w (w.setCell ⟨g, 10 * K, none⟩ (.string (bs nm'))) := Keeps.setCell (fun hb => hb.2 rfl) _
  refine ⟨ss, by rw [List.length_set]; exact h1, ?_, fun i nm2 x2 s hi hs => ?_⟩
  · rw [flat_setV l ss K nm nm' x h1 hK, List.length_set]
    exact (World.ownsRow.stored h2 (10 * K) _).1
  · have : ∃ nm0, l[i]? = some (nm0, x2) := by
      rw [List.getElem?_set] at hi
      split at hi
      · rename_i e
        subst e
        split at hi
        · have e := Option.some.inj hi
          injection e with e1 e2
          subst e2
          exact ⟨nm, hK⟩
        · cases hi
      · exact ⟨nm2, hi⟩
    obtain ⟨nm0, h0⟩ := this
    exact ⟨Lay.by'_keeps hk (h3 i nm0 x2 s h0 hs).1, (h3 i nm0 x2 s h0 hs).2.keeps hk⟩
theorem bd_freeV {T : TypeId} {w : World} {base d g n c : Nat} {l : List (List UInt8 × Ro)} (h : Bd .V T w base d l (.slice (some ⟨g, 0, none⟩) n c)) {K : Nat} {nm : List UInt8} {x : Ro} (hK : l[K]? = some (nm, x)) :
    w.cell? ⟨g, 10 * K, none⟩ = some (.string (bs nm)) ∧ w.frozen? ⟨g, 10 * K, none⟩ = false := by
  obtain ⟨ss, h1, h2, h3⟩ := h
  obtain rfl := bd_lenV (d := d) h2
  have hl := (List.getElem?_eq_some_iff.1 hK).1
  obtain ⟨s, hs⟩ : ∃ s, ss[K]? = some s := ⟨ss[K]'(by omega), List.getElem?_eq_getElem _⟩
  refine ⟨?_, World.ownsRow.frozenAt h2 (10 * K)⟩
  have := World.ownsRow.cells h2 (g := g) rfl (10 * K + 0) _ (flat_at .V l ss K nm x s hK hs 0 _ rfl)
  rw [Addr.add_mid, Nat.zero_add] at this
  exact this
end
section
open Go.ChangeShapes Go.WideShapes Go.RowKit
theorem post_of_under {P : Program} {H : Type} {enc : TypeId × Value → H} {f : Func} {s : ChangeSpec} {apart fresh handsOn : Bool} {W W' : World} {args : Array Value} {v : Value} {ds gs : List (DataW H)} {before pa pv : List MemPlace}
    (hW : DataW.Whole enc P f.params.toList s.vars apart W args.toList ds gs before)
    (hres : ∀ (b : Nat) (sp : Nat → Bool) (hd : Bool), DataW.TrodAll enc P W' b sp hd f.resultTypes.toList (v.resultList f.resultTypes.size) (s.fn H (ds ++ gs)).results [])
    (hargs : ∀ sp : Nat → Bool, (∀ p ∈ before, sp p.block = true) → DataW.TrodAll enc P W' 0 sp true f.params.toList args.toList (s.fn H (ds ++ gs)).args pa)
    (hvars : ∀ sp : Nat → Bool, (∀ p ∈ before, sp p.block = true) → DataW.TrodVars enc P W' sp s.vars (s.fn H (ds ++ gs)).vars pv)
    (hps : before = pa ++ pv) (hk : W.keptBut W' (· ∈ before)) :
    s.post enc P f apart fresh handsOn false W args v W' := by
  have hold : ∀ p ∈ before, (fun b => decide (b < W.heap.size)) p.block = true := fun p hp => by simpa using hW.lt p hp
  refine ⟨ds, gs, before, [], pa, pv, hW, hres _ _ _, hargs _ hold, hvars _ hold, World.keptBut_mono (fun p hp => ⟨hp, ?_⟩) hk, fun h => by cases h⟩
  rw [hps, List.mem_append] at hp
  exact Or.inr hp
end
section
open Go.RowKit
def Sl (k : IntKind) (w : World) (ad : Option Addr) (n : Nat) (f : Nat → Int) : Prop := ∀ i, i < n → ∃ a, ad = some a ∧ a.block < w.heap.size ∧ w.cell? (a.add i) = some (.int k (f i))
theorem Sl.beyond {k : IntKind} {w w' : World} {ad : Option Addr} {n : Nat} {f : Nat → Int} (h : Sl k w ad n f) (hb : Below w.heap.size w w') : Sl k w' ad n f := fun i hi => by
  obtain ⟨a, ha, hl, hc⟩ := h i hi
  refine ⟨a, ha, Nat.lt_of_lt_of_le hl hb.size, ?_⟩
  rw [hb.cell (p := a.add i) (by unfold Addr.add; split <;> exact hl)]
  exact hc
theorem Sl.below {k : IntKind} {w w' : World} {B : Nat} {ad : Option Addr} {n : Nat} {f : Nat → Int} (h : Sl k w ad n f) (hB : B ≤ w.heap.size) (hlt : ∀ a, ad = some a → a.block < B) (hb : Below B w w') : Sl k w' ad n f := fun i hi => by
  obtain ⟨a, ha, hl, hc⟩ := h i hi
  refine ⟨a, ha, Nat.lt_of_lt_of_le hl hb.size, ?_⟩
  rw [hb.cell (p := a.add i) (by unfold Addr.add; split <;> exact hlt a ha)]
  exact hc
theorem Sl.drewN {k : IntKind} {w : World} {ad : Option Addr} {n : Nat} {f : Nat → Int} (h : Sl k w ad n f) (m : Nat) : Sl k (w.drewN m) ad n f := h
theorem Sl.alloc {k : IntKind} {w : World} {ad : Option Addr} {n : Nat} {f : Nat → Int} (h : Sl k w ad n f) (o : Obj) : Sl k (w.alloc o) ad n f :=
  h.beyond ((Below.refl w.heap.size w).alloc (Nat.le_refl _) o)
theorem Sl.none (k : IntKind) (w : World) (ad : Option Addr) (f : Nat → Int) : Sl k w ad 0 f := fun i hi => by omega
theorem Sl.congr {k : IntKind} {w : World} {ad : Option Addr} {n : Nat} {f g : Nat → Int} (h : Sl k w ad n f) (e : ∀ i, i < n → f i = g i) : Sl k w ad n g := fun i hi => by
  obtain ⟨a, ha, hl, hc⟩ := h i hi
  exact ⟨a, ha, hl, by rw [hc, e i hi]⟩
end
section
open Go.ChangeShapes Go.WideShapes Go.RowKit
theorem back_all {H : Type} {enc : TypeId × Value → H} {P : Program} (hl : laidOutB P = true) {W W' : World} (hb : Below W.heap.size W W') {sp : Nat → Bool} : ∀ {ts : List TypeId} {vs : List Value} {ds : List (DataW H)} {ps : List MemPlace},
    (∀ t ∈ ts, P.readableRec t = true ∧ t < P.types.size) → DataW.TrodAll enc P W 0 (fun _ => true) true ts vs ds ps → (∀ x ∈ ps, x.block < W.heap.size) → (∀ x ∈ ps, sp x.block = true) → DataW.TrodAll enc P W' 0 sp true ts vs ds ps
  | [], [], [], _, _, h, _, _ => h
  | t :: _, _ :: _, _ :: _, _, hT, ⟨p, q, h1, h2, e⟩, hlt, hs => by
    subst e
    exact ⟨p, q, WideElems.Trod_stays hl (hT t (List.mem_cons_self ..)).1 (hT t (List.mem_cons_self ..)).2 h1 (fun x hx => hb.same (hlt x (List.mem_append_left _ hx))) (fun x hx => hs x (List.mem_append_left _ hx)),
      back_all hl hb (fun t' ht' => hT t' (List.mem_cons_of_mem _ ht')) h2 (fun x hx => hlt x (List.mem_append_right _ hx)) (fun x hx => hs x (List.mem_append_right _ hx)), rfl⟩
theorem cell_lt {w : World} {a : Addr} {v : Value} (h : w.cell? a = some v) : a.block < w.heap.size := by
  by_cases hlt : a.block < w.heap.size
  · exact hlt
  · exfalso
    have e : w.heap[a.block]? = none := Array.getElem?_eq_none (by omega)
    simp [World.cell?, e] at h
theorem add_block (a : Addr) (i : Nat) : (a.add i).block = a.block := by unfold Addr.add; split <;> rfl
def c8 (k : IntKind) (f : Nat → Int) : Value := .agg #[.int k (f 0), .int k (f 1), .int k (f 2), .int k (f 3), .int k (f 4), .int k (f 5), .int k (f 6), .int k (f 7)]
end
end Go.Proofs.YtihnfhhopldllaaGreatDoor
