/- Parts of the proof of TopLooks: U14. No condition. -/
import Derived.Test.YtihnfhhopldllaaGreatDoorJ1
import Derived.Test.YtihnfhhopldllaaGreatDoorJ8
namespace Go.Proofs.YtihnfhhopldllaaGreatDoor
set_option linter.unusedSimpArgs false
set_option linter.unusedVariables false
set_option maxHeartbeats 6400000
set_option maxRecDepth 100000
section
open Go.RowKit
theorem hi_member : ∃ i0, Tryz.prog.info? 166 = some i0 ∧ i0.zero = some (.agg #[.string { data := #[] }, .int .i64 0, .string { data := #[] }, .slice none 0 0]) ∧ i0.size = 4 ∧ i0.bytes = 64 := by
  have h : (Tryz.prog.info? 166).map (fun i => (i.zero, i.size, i.bytes)) = some (some (.agg #[.string { data := #[] }, .int .i64 0, .string { data := #[] }, .slice none 0 0]), 4, 64) := by kernel_rfl
  obtain ⟨i0, h0, h1⟩ := Option.map_eq_some_iff.1 h
  injection h1 with h1 h2
  injection h2 with h2 h3
  exact ⟨i0, h0, h1, h2, h3⟩
theorem mem4_one {s t : ByteArray} {z : Int} {ad : Option Addr} {n c : Nat} : ∀ u ∈ [Value.string s, .int .i64 z, .string t, .slice ad n c], u.oneCell' = true := fun u hu => by
  simp only [List.mem_cons, List.not_mem_nil, or_false] at hu
  rcases hu with rfl | rfl | rfl | rfl
  all_goals rfl
theorem Bd.low {L : Lay} {T : TypeId} {w : World} {base base' k : Nat} {l : List (List UInt8 × Ro)} {v : Value} (h : Bd L T w base k l v) (hb : base' ≤ base) : Bd L T w base' k l v := by
  obtain ⟨ss, h1, h2, h3⟩ := h
  exact ⟨ss, h1, World.ownsRow.mono h2 hb, fun i nm x s hi hs => ⟨Lay.by'_mono (fun b h _ => ⟨Nat.le_trans hb h.1, h.2⟩) (h3 i nm x s hi hs).1, (h3 i nm x s hi hs).2.mono (fun b h _ => ⟨Nat.le_trans hb h.1, h.2⟩)⟩⟩
theorem isJ_kids {Q : Nat → Prop} {w : World} {k : Nat} {t : Ro} {kd : Int} {tx : ByteArray} {ad : Option Addr} {n c : Nat} (h : Is .J Q w k t (.agg #[.int .i64 kd, .string tx, .slice ad n c])) : Kd .J Q w k t.kids (.slice ad n c) := by
  obtain ⟨bv, s, hv, _, hk⟩ := h
  have hs : s = .slice ad n c := by
    have := congrArg (fun v => match v with | .agg a => a.toList[2]? | _ => none) hv
    simp [Lay.cells] at this
    exact this.symm
  subst hs
  exact hk
theorem cplain_any (k d : Nat) (i : Ro) (l : KL) (hl : l.length ≤ 20) (Q : Nat → Prop) (ad : Option Addr) (m c : Nat) (hm : l.length = m) (w : World) (hk : Kd .V Q w (k + 1) l (.slice ad m c))
    (ih : ∀ x ∈ l, ∀ (Q : Nat → Prop) (w : World) (v : Value), Is .V Q w k x.2 v → Calls Tryz.prog 106 #[v] w fun e w' => (∃ jv, e = .returned jv ∧ Is .J (fun b => w.heap.size ≤ b) w' d (docJ i k x.2) jv) ∧ Below w.heap.size w w') :
    Calls Tryz.prog 61 #[.slice ad m c] w fun e w' => (∃ V, e = .returned (.agg #[.int .i64 7, .string { data := #[] }, V]) ∧ Bd .J 166 w' w.heap.size d (l.map fun x => (x.1, docJ i k x.2)) V) ∧ Below w.heap.size w w' := by
  have HK := Lib.hid hk
  have HI := Lib.hid ih
  have HM := Lib.hid hm
  have hm20 : m ≤ 20 := by omega
  obtain ⟨B, hB⟩ : ∃ B, B = w.heap.size + 2 := ⟨_, rfl⟩
  have HB0 := Lib.hid hB
  have hB1 : w.heap.size ≤ B := by omega
  have hB2 : w.heap.size < B := by omega
  have hB3 : w.heap.size + 1 < B := by omega
  obtain ⟨i0, hi, iz0, iz1, iz2⟩ := hi_member
  clear hk hm hl hB ih
  go_enter Tryz.func61, Tryz.ntmps61
  go_wp2_with fail
  go_loopw [9] (fun x wr => ∃ K V, K ≤ m ∧ x = .int .i64 K ∧ B ≤ wr.heap.size ∧ wr.cell? ⟨w.heap.size + 1, 0, none⟩ = some (.int .i64 7) ∧ wr.cell? ⟨w.heap.size + 1, 1, none⟩ = some (.string { data := #[] }) ∧ wr.cell? ⟨w.heap.size + 1, 2, none⟩ = some V ∧ wr.frozen? ⟨w.heap.size + 1, 2, none⟩ = false ∧
    wr.cell? ⟨w.heap.size, 0, none⟩ = some (.int .i64 0) ∧ wr.cell? ⟨w.heap.size, 1, none⟩ = some (.string { data := #[] }) ∧ wr.cell? ⟨w.heap.size, 2, none⟩ = some (.slice none 0 0) ∧ wr.frozen? ⟨w.heap.size, 0, none⟩ = false ∧ wr.frozen? ⟨w.heap.size, 1, none⟩ = false ∧ wr.frozen? ⟨w.heap.size, 2, none⟩ = false ∧
    Hid (Bd .J 166 wr B d ((l.take K).map fun x => (x.1, docJ i k x.2)) V) ∧ Hid (Below w.heap.size w wr)) (fun x _ => m - (intOf x).toNat)
  case atStart =>
    refine ⟨0, .slice none 0 0, Nat.zero_le _, rfl, ?_, ?_, ?_, ?_, ?_, ?_, ?_, ?_, ?_, ?_, ?_, Lib.hid ?_, Lib.hid ?_⟩
    case refine_12 => exact Bd.nil _ _ _ _ _
    case refine_13 => exact bel
    all_goals first | (simp [go_sem]; done) | (have := HB0.out; simp; omega)
  case round =>
    obtain ⟨K, V, hK, rfl, hzr, j0, j1, j2, jf, a0, a1, a2, b0, b1, b2, HD, HW⟩ := hrel
    have hHB0 := HB0.out
    have hz0 : w.heap.size < wr.heap.size := by omega
    have hz1 : w.heap.size + 1 < wr.heap.size := by omega
    have hne1 : wr.heap.size ≠ w.heap.size + 1 := by omega
    by_cases hKm : K < m
    · obtain ⟨⟨kn, kx⟩, hkx⟩ : ∃ x, l[K]? = some x := ⟨_, List.getElem?_eq_getElem (by have := HM.out; omega)⟩
      obtain ⟨b, o, bv, s, rfl, hqb, hbl, hra, hby, hkd⟩ := HK.out.at hkx
      have hblk : wr.heap[b]? = w.heap[b]? := HW.out.block b hbl
      obtain ⟨sd, sc, rfl⟩ := hkd.slice
      have hby2 := Lib.hid hby
      obtain ⟨bd2, bc2, rfl, hbb⟩ := hby
      obtain ⟨r0, r1, r2, r3, r4, r5, r6, r7, r8, r9⟩ := rowV (rangeAt_block hblk hra)
      have HIx := Lib.hid (HI.out _ (List.mem_of_getElem? hkx) Q)
      have KQ : Hid (∀ w6 : World, Below wr.heap.size wr w6 → Is .V Q w6 k kx (.agg #[.int .i64 kx.o.kind, .int .u64 kx.o.bits, .int .u64 kx.o.high, .int .u64 kx.o.low, .string (bs kx.o.text), .string (bs kx.o.more), .int .i64 kx.o.sub, .slice bd2 kx.o.bytes.length bc2, .slice sd kx.kids.length sc])) := Lib.hid (fun w6 h6 => Is.beyond (w := w) ⟨_, _, rfl, hby2.out, hkd⟩ (HW.out.trans (h6.mono HW.out.size)))
      have HKX : Hid ((l.take (K + 1)).map (fun x => (x.1, docJ i k x.2)) = (l.take K).map (fun x => (x.1, docJ i k x.2)) ++ [(kn, docJ i k kx)]) := Lib.hid (by
        rw [List.take_add_one, hkx]; simp)
      have hVg := HD.out.lt
      obtain ⟨V0, hV0⟩ : ∃ x, bs kn = x := ⟨_, rfl⟩
      obtain ⟨V1, hV1⟩ : ∃ x, kx.o.kind = x := ⟨_, rfl⟩
      obtain ⟨V2, hV2⟩ : ∃ x, kx.o.bits = x := ⟨_, rfl⟩
      obtain ⟨V3, hV3⟩ : ∃ x, kx.o.high = x := ⟨_, rfl⟩
      obtain ⟨V4, hV4⟩ : ∃ x, kx.o.low = x := ⟨_, rfl⟩
      obtain ⟨V5, hV5⟩ : ∃ x, bs kx.o.text = x := ⟨_, rfl⟩
      obtain ⟨V6, hV6⟩ : ∃ x, bs kx.o.more = x := ⟨_, rfl⟩
      obtain ⟨V7, hV7⟩ : ∃ x, kx.o.sub = x := ⟨_, rfl⟩
      obtain ⟨V8, hV8⟩ : ∃ x, kx.o.bytes.length = x := ⟨_, rfl⟩
      obtain ⟨V9, hV9⟩ : ∃ x, kx.kids.length = x := ⟨_, rfl⟩
      rw [hV0] at r0
      rw [hV1] at r1 KQ
      rw [hV2] at r2 KQ
      rw [hV3] at r3 KQ
      rw [hV4] at r4 KQ
      rw [hV5] at r5 KQ
      rw [hV6] at r6 KQ
      rw [hV7] at r7 KQ
      rw [hV8] at r8 KQ
      rw [hV9] at r9 KQ
      have HLn : Hid (((l.take K).map fun x => (x.1, docJ i k x.2)).length = K) := Lib.hid (by simp; have := HM.out; omega)
      have HV0 := Lib.hid hV0
      clear hra hkd hby2 hbb hblk hkx hV0 hV1 hV2 hV3 hV4 hV5 hV6 hV7 hV8 hV9
      go_upto_region 5 with fail
      clear r0 r1 r2 r3 r4 r5 r6 r7 r8 r9
      go_region_law (first
        | (go_simp; go_at_call 106; (refine (HIx.out _ _ (KQ.out _ bel)).mono ?_); rintro e w6 ⟨⟨jv, rfl, hj⟩, hb6⟩; obtain ⟨jad, jc, rfl⟩ := isJ_form hj; have j2' : w6.cell? ⟨w.heap.size + 1, 2, none⟩ = some V := (hb6.cell (p := ⟨w.heap.size + 1, 2, none⟩) (by simp; omega)).trans (by simp [go_sem, *]); have jf' := fB hb6 (w.heap.size + 1) 2; have hs6 : wr.heap.size + 1 ≤ w6.heap.size := (by have := hb6.size; simp at this; omega); have hz6 : w.heap.size + 1 < w6.heap.size := (by omega); have hz6b : w.heap.size < w6.heap.size := (by omega); have hS6 := (hb6.block wr.heap.size (by simp)).trans (heap_alloc_last wr _); obtain ⟨⟨s0, s1, s2, s3, s4, s5, s6, s7, s8, s9⟩, hS6b⟩ := row10 hS6; have hbw6 := bwB hb6 wr.heap.size wr; have HD6 := HD.out.beyond hbw6; obtain ⟨ss, hs1, hs2, hs3⟩ := HD6)
        | (refine step_append_lies _ rfl _ _ _ rfl B 166 i0 _ 4 64 Tryz.underlying75 hi iz0 iz1 iz2 rfl (by decide) V K (flat .J ((l.take K).map fun x => (x.1, docJ i k x.2)) ss) evl ?c0 ⟨w6.heap.size, 0, none⟩ 1 1 [.string V0, .int .i64 (docJ i k kx).o.kind, .string (bs (docJ i k kx).o.text), .slice jad (docJ i k kx).kids.length jc] evl rfl ?c1 ?c2 (by decide) ?c3 ?c4 ?c5 _ rfl ?_; (case c0 => (rw [HLn.out] at hs2; exact hs2.alloc _)); (case c1 => exact World.news_of_block (cs := #[.string V0, .int .i64 (docJ i k kx).o.kind, .string (bs (docJ i k kx).o.text), .slice jad (docJ i k kx).kids.length jc]) (heap_alloc_last w6 _)); (case c2 => exact mem4_one); (case c3 => (unfold maxLen; omega)); (case c4 => omega); (case c5 => (have := hb6.size; simp at this; simp; omega)); intro g7 cap7 w7 hown7 hgrow7 hat7 hlt7; have hS7 := (hgrow7.block wr.heap.size (by have := hb6.size; simp at this; simp; omega) (fun e => by have := hVg _ e.symm; omega)).trans ((Below.heap_alloc _ _ _ (by have := hb6.size; simp at this; omega)).trans hS6); have hb7 : Below B wr w7 := Below.grown ((hbw6.mono hzr).alloc (by omega) _) hgrow7 (by simp; omega) (fun k hk => (hVg k hk).1); have k0 := (hb7.cell (p := ⟨w.heap.size + 1, 0, none⟩) hB3).trans j0; have k1 := (hb7.cell (p := ⟨w.heap.size + 1, 1, none⟩) hB3).trans j1; have k2 := (hb7.cell (p := ⟨w.heap.size + 1, 2, none⟩) hB3).trans j2; have kf := (hb7.frozen (p := ⟨w.heap.size + 1, 2, none⟩) hB3).trans jf; have k3 := (hb7.cell (p := ⟨w.heap.size, 0, none⟩) hB2).trans a0; have k4 := (hb7.cell (p := ⟨w.heap.size, 1, none⟩) hB2).trans a1; have k5 := (hb7.cell (p := ⟨w.heap.size, 2, none⟩) hB2).trans a2; have k6 := (hb7.frozen (p := ⟨w.heap.size, 0, none⟩) hB2).trans b0; have k7 := (hb7.frozen (p := ⟨w.heap.size, 1, none⟩) hB2).trans b1; have k8 := (hb7.frozen (p := ⟨w.heap.size, 2, none⟩) hB2).trans b2; have hz7 := hb7.size; have HN : Hid (Bd .J 166 w7 B d ((l.take (K + 1)).map fun x => (x.1, docJ i k x.2)) (.slice (some ⟨g7, 0, none⟩) (K + 1) cap7)) := Lib.hid (by rw [HKX.out]; refine Bd.snoc (s := (.slice none 0 0, .slice jad (docJ i k kx).kids.length jc)) hs1 (fun i nm x s h1 h2 => ⟨True.intro, (hs3 i nm x s h1 h2).2.beyond ((Below.refl _ _).alloc (Nat.le_refl _) _)⟩) True.intro (((isJ_kids hj).mono (fun b hb _ => ⟨by simp at hb; omega, fun e => by have := (hVg _ e).2; simp at hb; omega⟩)).beyond ((Below.refl _ _).alloc (Nat.le_refl _) _)) (by rw [HLn.out]; show World.ownsRow w7 B _ 4 _ (K + 1) (_ ++ [.string (bs kn), .int .i64 (docJ i k kx).o.kind, .string (bs (docJ i k kx).o.text), .slice jad (docJ i k kx).kids.length jc]); rw [HV0.out]; exact hown7) hgrow7 (fun g hg => by have e : g7 = g := (by simpa [Value.ownBlock] using hg); subst e; exact hat7)); clear hown7 hgrow7 hat7 hlt7 hS7))
      all_goals
        have HWn : Hid (Below w.heap.size w w7) := Lib.hid (HW.out.trans (hb7.mono hB1))
        clear hb7 hj hs1 hs2 hs3 hbw6 hS6 hS6b s0 s1 s2 s3 s4 s5 s6 s7 s8 s9 j2' jf' hb6
        go_wp2_with fail
        go_roundw
        case rel =>
          refine ⟨K + 1, .slice (some ⟨g7, 0, none⟩) (K + 1) cap7, by omega, by go_num, ?_, ?_, ?_, ?_, ?_, ?_, ?_, ?_, ?_, ?_, ?_, Lib.hid (HN.out.set (by simpa using hB3) _), Lib.hid (HWn.out.setCell (by simp) _)⟩
          all_goals first | (simp [go_sem, *]; done) | (simp; omega)
        case measure => simp [intOf]; omega
    · have hKe : K = m := by omega
      subst hKe
      have hwr := HW.out
      have HD2 : Hid (Bd .J 166 wr B d (l.map fun x => (x.1, docJ i k x.2)) V) := Lib.hid (by
        have h := HD.out
        rw [List.take_of_length_le (by have := HM.out; omega)] at h
        exact h)
      obtain ⟨vd, vc, hV⟩ : ∃ ad c, V = .slice ad K c := by
        obtain ⟨ad', c', hv⟩ := HD.out.done.slice
        refine ⟨ad', c', ?_⟩
        rw [hv]
        simp
        have := HM.out
        omega
      subst hV
      go_wp2_with fail
      refine bodyPost_ret (v := .agg #[.int .i64 7, .string { data := #[] }, .slice vd K vc]) (by simp (maxDischargeDepth := 3) [results, Tryz.results61, go_sem, a0, a1, a2, b0, b1, b2, j0, j1, j2]) rfl ?_
      exact ⟨⟨_, rfl, (((HD2.out.set (p := ⟨w.heap.size, 0, none⟩) hB2 _).set (p := ⟨w.heap.size, 1, none⟩) hB2 _).set (p := ⟨w.heap.size, 2, none⟩) hB2 _).low hB1⟩, bel⟩
theorem xplain_any (k d : Nat) (i : Ro) (l : KL) (hl : l.length ≤ 20) (Q : Nat → Prop) (ad : Option Addr) (m c : Nat) (hm : l.length = m) (w : World) (hk : Kd .V Q w (k + 1) l (.slice ad m c))
    (ih : ∀ x ∈ l, ∀ (Q : Nat → Prop) (w : World) (v : Value), Is .V Q w k x.2 v → Calls Tryz.prog 109 #[v] w fun e w' => (∃ jv, e = .returned jv ∧ Is .J (fun b => w.heap.size ≤ b) w' d (docJ i k x.2) jv) ∧ Below w.heap.size w w') :
    Calls Tryz.prog 64 #[.slice ad m c] w fun e w' => (∃ V, e = .returned (.agg #[.int .i64 7, .string { data := #[] }, V]) ∧ Bd .J 166 w' w.heap.size d (l.map fun x => (x.1, docJ i k x.2)) V) ∧ Below w.heap.size w w' := by
  have HK := Lib.hid hk
  have HI := Lib.hid ih
  have HM := Lib.hid hm
  have hm20 : m ≤ 20 := by omega
  obtain ⟨B, hB⟩ : ∃ B, B = w.heap.size + 2 := ⟨_, rfl⟩
  have HB0 := Lib.hid hB
  have hB1 : w.heap.size ≤ B := by omega
  have hB2 : w.heap.size < B := by omega
  have hB3 : w.heap.size + 1 < B := by omega
  obtain ⟨i0, hi, iz0, iz1, iz2⟩ := hi_member
  clear hk hm hl hB ih
  go_enter Tryz.func64, Tryz.ntmps64
  go_wp2_with fail
  go_loopw [9] (fun x wr => ∃ K V, K ≤ m ∧ x = .int .i64 K ∧ B ≤ wr.heap.size ∧ wr.cell? ⟨w.heap.size + 1, 0, none⟩ = some (.int .i64 7) ∧ wr.cell? ⟨w.heap.size + 1, 1, none⟩ = some (.string { data := #[] }) ∧ wr.cell? ⟨w.heap.size + 1, 2, none⟩ = some V ∧ wr.frozen? ⟨w.heap.size + 1, 2, none⟩ = false ∧
    wr.cell? ⟨w.heap.size, 0, none⟩ = some (.int .i64 0) ∧ wr.cell? ⟨w.heap.size, 1, none⟩ = some (.string { data := #[] }) ∧ wr.cell? ⟨w.heap.size, 2, none⟩ = some (.slice none 0 0) ∧ wr.frozen? ⟨w.heap.size, 0, none⟩ = false ∧ wr.frozen? ⟨w.heap.size, 1, none⟩ = false ∧ wr.frozen? ⟨w.heap.size, 2, none⟩ = false ∧
    Hid (Bd .J 166 wr B d ((l.take K).map fun x => (x.1, docJ i k x.2)) V) ∧ Hid (Below w.heap.size w wr)) (fun x _ => m - (intOf x).toNat)
  case atStart =>
    refine ⟨0, .slice none 0 0, Nat.zero_le _, rfl, ?_, ?_, ?_, ?_, ?_, ?_, ?_, ?_, ?_, ?_, ?_, Lib.hid ?_, Lib.hid ?_⟩
    case refine_12 => exact Bd.nil _ _ _ _ _
    case refine_13 => exact bel
    all_goals first | (simp [go_sem]; done) | (have := HB0.out; simp; omega)
  case round =>
    obtain ⟨K, V, hK, rfl, hzr, j0, j1, j2, jf, a0, a1, a2, b0, b1, b2, HD, HW⟩ := hrel
    have hHB0 := HB0.out
    have hz0 : w.heap.size < wr.heap.size := by omega
    have hz1 : w.heap.size + 1 < wr.heap.size := by omega
    have hne1 : wr.heap.size ≠ w.heap.size + 1 := by omega
    by_cases hKm : K < m
    · obtain ⟨⟨kn, kx⟩, hkx⟩ : ∃ x, l[K]? = some x := ⟨_, List.getElem?_eq_getElem (by have := HM.out; omega)⟩
      obtain ⟨b, o, bv, s, rfl, hqb, hbl, hra, hby, hkd⟩ := HK.out.at hkx
      have hblk : wr.heap[b]? = w.heap[b]? := HW.out.block b hbl
      obtain ⟨sd, sc, rfl⟩ := hkd.slice
      have hby2 := Lib.hid hby
      obtain ⟨bd2, bc2, rfl, hbb⟩ := hby
      obtain ⟨r0, r1, r2, r3, r4, r5, r6, r7, r8, r9⟩ := rowV (rangeAt_block hblk hra)
      have HIx := Lib.hid (HI.out _ (List.mem_of_getElem? hkx) Q)
      have KQ : Hid (∀ w6 : World, Below wr.heap.size wr w6 → Is .V Q w6 k kx (.agg #[.int .i64 kx.o.kind, .int .u64 kx.o.bits, .int .u64 kx.o.high, .int .u64 kx.o.low, .string (bs kx.o.text), .string (bs kx.o.more), .int .i64 kx.o.sub, .slice bd2 kx.o.bytes.length bc2, .slice sd kx.kids.length sc])) := Lib.hid (fun w6 h6 => Is.beyond (w := w) ⟨_, _, rfl, hby2.out, hkd⟩ (HW.out.trans (h6.mono HW.out.size)))
      have HKX : Hid ((l.take (K + 1)).map (fun x => (x.1, docJ i k x.2)) = (l.take K).map (fun x => (x.1, docJ i k x.2)) ++ [(kn, docJ i k kx)]) := Lib.hid (by
        rw [List.take_add_one, hkx]; simp)
      have hVg := HD.out.lt
      obtain ⟨V0, hV0⟩ : ∃ x, bs kn = x := ⟨_, rfl⟩
      obtain ⟨V1, hV1⟩ : ∃ x, kx.o.kind = x := ⟨_, rfl⟩
      obtain ⟨V2, hV2⟩ : ∃ x, kx.o.bits = x := ⟨_, rfl⟩
      obtain ⟨V3, hV3⟩ : ∃ x, kx.o.high = x := ⟨_, rfl⟩
      obtain ⟨V4, hV4⟩ : ∃ x, kx.o.low = x := ⟨_, rfl⟩
      obtain ⟨V5, hV5⟩ : ∃ x, bs kx.o.text = x := ⟨_, rfl⟩
      obtain ⟨V6, hV6⟩ : ∃ x, bs kx.o.more = x := ⟨_, rfl⟩
      obtain ⟨V7, hV7⟩ : ∃ x, kx.o.sub = x := ⟨_, rfl⟩
      obtain ⟨V8, hV8⟩ : ∃ x, kx.o.bytes.length = x := ⟨_, rfl⟩
      obtain ⟨V9, hV9⟩ : ∃ x, kx.kids.length = x := ⟨_, rfl⟩
      rw [hV0] at r0
      rw [hV1] at r1 KQ
      rw [hV2] at r2 KQ
      rw [hV3] at r3 KQ
      rw [hV4] at r4 KQ
      rw [hV5] at r5 KQ
      rw [hV6] at r6 KQ
      rw [hV7] at r7 KQ
      rw [hV8] at r8 KQ
      rw [hV9] at r9 KQ
      have HLn : Hid (((l.take K).map fun x => (x.1, docJ i k x.2)).length = K) := Lib.hid (by simp; have := HM.out; omega)
      have HV0 := Lib.hid hV0
      clear hra hkd hby2 hbb hblk hkx hV0 hV1 hV2 hV3 hV4 hV5 hV6 hV7 hV8 hV9
      go_upto_region 5 with fail
      clear r0 r1 r2 r3 r4 r5 r6 r7 r8 r9
      go_region_law (first
        | (go_simp; go_at_call 109; (refine (HIx.out _ _ (KQ.out _ bel)).mono ?_); rintro e w6 ⟨⟨jv, rfl, hj⟩, hb6⟩; obtain ⟨jad, jc, rfl⟩ := isJ_form hj; have j2' : w6.cell? ⟨w.heap.size + 1, 2, none⟩ = some V := (hb6.cell (p := ⟨w.heap.size + 1, 2, none⟩) (by simp; omega)).trans (by simp [go_sem, *]); have jf' := fB hb6 (w.heap.size + 1) 2; have hs6 : wr.heap.size + 1 ≤ w6.heap.size := (by have := hb6.size; simp at this; omega); have hz6 : w.heap.size + 1 < w6.heap.size := (by omega); have hz6b : w.heap.size < w6.heap.size := (by omega); have hS6 := (hb6.block wr.heap.size (by simp)).trans (heap_alloc_last wr _); obtain ⟨⟨s0, s1, s2, s3, s4, s5, s6, s7, s8, s9⟩, hS6b⟩ := row10 hS6; have hbw6 := bwB hb6 wr.heap.size wr; have HD6 := HD.out.beyond hbw6; obtain ⟨ss, hs1, hs2, hs3⟩ := HD6)
        | (refine step_append_lies _ rfl _ _ _ rfl B 166 i0 _ 4 64 Tryz.underlying75 hi iz0 iz1 iz2 rfl (by decide) V K (flat .J ((l.take K).map fun x => (x.1, docJ i k x.2)) ss) evl ?c0 ⟨w6.heap.size, 0, none⟩ 1 1 [.string V0, .int .i64 (docJ i k kx).o.kind, .string (bs (docJ i k kx).o.text), .slice jad (docJ i k kx).kids.length jc] evl rfl ?c1 ?c2 (by decide) ?c3 ?c4 ?c5 _ rfl ?_; (case c0 => (rw [HLn.out] at hs2; exact hs2.alloc _)); (case c1 => exact World.news_of_block (cs := #[.string V0, .int .i64 (docJ i k kx).o.kind, .string (bs (docJ i k kx).o.text), .slice jad (docJ i k kx).kids.length jc]) (heap_alloc_last w6 _)); (case c2 => exact mem4_one); (case c3 => (unfold maxLen; omega)); (case c4 => omega); (case c5 => (have := hb6.size; simp at this; simp; omega)); intro g7 cap7 w7 hown7 hgrow7 hat7 hlt7; have hS7 := (hgrow7.block wr.heap.size (by have := hb6.size; simp at this; simp; omega) (fun e => by have := hVg _ e.symm; omega)).trans ((Below.heap_alloc _ _ _ (by have := hb6.size; simp at this; omega)).trans hS6); have hb7 : Below B wr w7 := Below.grown ((hbw6.mono hzr).alloc (by omega) _) hgrow7 (by simp; omega) (fun k hk => (hVg k hk).1); have k0 := (hb7.cell (p := ⟨w.heap.size + 1, 0, none⟩) hB3).trans j0; have k1 := (hb7.cell (p := ⟨w.heap.size + 1, 1, none⟩) hB3).trans j1; have k2 := (hb7.cell (p := ⟨w.heap.size + 1, 2, none⟩) hB3).trans j2; have kf := (hb7.frozen (p := ⟨w.heap.size + 1, 2, none⟩) hB3).trans jf; have k3 := (hb7.cell (p := ⟨w.heap.size, 0, none⟩) hB2).trans a0; have k4 := (hb7.cell (p := ⟨w.heap.size, 1, none⟩) hB2).trans a1; have k5 := (hb7.cell (p := ⟨w.heap.size, 2, none⟩) hB2).trans a2; have k6 := (hb7.frozen (p := ⟨w.heap.size, 0, none⟩) hB2).trans b0; have k7 := (hb7.frozen (p := ⟨w.heap.size, 1, none⟩) hB2).trans b1; have k8 := (hb7.frozen (p := ⟨w.heap.size, 2, none⟩) hB2).trans b2; have hz7 := hb7.size; have HN : Hid (Bd .J 166 w7 B d ((l.take (K + 1)).map fun x => (x.1, docJ i k x.2)) (.slice (some ⟨g7, 0, none⟩) (K + 1) cap7)) := Lib.hid (by rw [HKX.out]; refine Bd.snoc (s := (.slice none 0 0, .slice jad (docJ i k kx).kids.length jc)) hs1 (fun i nm x s h1 h2 => ⟨True.intro, (hs3 i nm x s h1 h2).2.beyond ((Below.refl _ _).alloc (Nat.le_refl _) _)⟩) True.intro (((isJ_kids hj).mono (fun b hb _ => ⟨by simp at hb; omega, fun e => by have := (hVg _ e).2; simp at hb; omega⟩)).beyond ((Below.refl _ _).alloc (Nat.le_refl _) _)) (by rw [HLn.out]; show World.ownsRow w7 B _ 4 _ (K + 1) (_ ++ [.string (bs kn), .int .i64 (docJ i k kx).o.kind, .string (bs (docJ i k kx).o.text), .slice jad (docJ i k kx).kids.length jc]); rw [HV0.out]; exact hown7) hgrow7 (fun g hg => by have e : g7 = g := (by simpa [Value.ownBlock] using hg); subst e; exact hat7)); clear hown7 hgrow7 hat7 hlt7 hS7))
      all_goals
        have HWn : Hid (Below w.heap.size w w7) := Lib.hid (HW.out.trans (hb7.mono hB1))
        clear hb7 hj hs1 hs2 hs3 hbw6 hS6 hS6b s0 s1 s2 s3 s4 s5 s6 s7 s8 s9 j2' jf' hb6
        go_wp2_with fail
        go_roundw
        case rel =>
          refine ⟨K + 1, .slice (some ⟨g7, 0, none⟩) (K + 1) cap7, by omega, by go_num, ?_, ?_, ?_, ?_, ?_, ?_, ?_, ?_, ?_, ?_, ?_, Lib.hid (HN.out.set (by simpa using hB3) _), Lib.hid (HWn.out.setCell (by simp) _)⟩
          all_goals first | (simp [go_sem, *]; done) | (simp; omega)
        case measure => simp [intOf]; omega
    · have hKe : K = m := by omega
      subst hKe
      have hwr := HW.out
      have HD2 : Hid (Bd .J 166 wr B d (l.map fun x => (x.1, docJ i k x.2)) V) := Lib.hid (by
        have h := HD.out
        rw [List.take_of_length_le (by have := HM.out; omega)] at h
        exact h)
      obtain ⟨vd, vc, hV⟩ : ∃ ad c, V = .slice ad K c := by
        obtain ⟨ad', c', hv⟩ := HD.out.done.slice
        refine ⟨ad', c', ?_⟩
        rw [hv]
        simp
        have := HM.out
        omega
      subst hV
      go_wp2_with fail
      refine bodyPost_ret (v := .agg #[.int .i64 7, .string { data := #[] }, .slice vd K vc]) (by simp (maxDischargeDepth := 3) [results, Tryz.results64, go_sem, a0, a1, a2, b0, b1, b2, j0, j1, j2]) rfl ?_
      exact ⟨⟨_, rfl, (((HD2.out.set (p := ⟨w.heap.size, 0, none⟩) hB2 _).set (p := ⟨w.heap.size, 1, none⟩) hB2 _).set (p := ⟨w.heap.size, 2, none⟩) hB2 _).low hB1⟩, bel⟩
end
end Go.Proofs.YtihnfhhopldllaaGreatDoor
