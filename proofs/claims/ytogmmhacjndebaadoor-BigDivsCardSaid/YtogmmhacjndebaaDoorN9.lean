/- The contract of big.Text: a number's decimal digits. Conditions: a number of at most 256 digits of 2^16; the table of powers of 10 is laid. -/
import Derived.Test.YtogmmhacjndebaaDoorN7
import Derived.Test.YtogmmhacjndebaaDoorN8
import Derived.Test.YtogmmhacjndebaaDoorW6
import Derived.Outline
namespace Go.Proofs.YtogmmhacjndebaaDoor
open Go.RowKit
set_option linter.unusedSimpArgs false
set_option linter.unusedVariables false
theorem info_str : (Tryd.prog.info? 9).map (fun i => (i.zero, i.size, i.bytes)) = some (some (.string { data := #[] }), 1, 16) := by kernel_rfl
theorem one_str {s : ByteArray} : ∀ u ∈ [Value.string s], u.oneCell' = true := fun u hu => by
  rcases List.mem_singleton.1 hu with rfl
  rfl
def OwnS (w : World) (base : Nat) (v : Value) (xs : List (List UInt8)) : Prop := w.ownsRow base 9 1 v xs.length (xs.map fun l => Value.string ⟨l.toArray⟩)
theorem OwnS.nil (w : World) (base : Nat) : OwnS w base (.slice none 0 0) [] := World.ownsRow_nil _ _ _ _
theorem ownS_lt {w : World} {base : Nat} {v : Value} {l : List (List UInt8)} (h : OwnS w base v l) : ∀ k, v.ownBlock = some k → base ≤ k := fun k hk => (World.ownsRow.lt h k hk).1
theorem ownS_app {w : World} {base : Nat} {v : Value} {xs : List (List UInt8)} {p : List UInt8} {S : ByteArray} (e : S.data.toList = p) (h : w.ownsRow base 9 1 v (xs.length + 1) ((xs.map fun l => Value.string ⟨l.toArray⟩) ++ [.string S])) : OwnS w base v (xs ++ [p]) := by
  unfold OwnS
  rw [List.length_append, List.length_singleton, List.map_append, List.map_singleton, ← e]
  exact h
theorem Sl.grown {k : IntKind} {w w' : World} {ad : Option Addr} {n : Nat} {f : Nat → Int} {row : Option Nat} (h : Sl k w ad n f) (hg : w.grownBy w' row) (hne : ∀ a, ad = some a → some a.block ≠ row) : Sl k w' ad n f := fun i hi => by
  obtain ⟨a, ha, hl, hc⟩ := h i hi
  refine ⟨a, ha, Nat.lt_of_lt_of_le hl hg.size, hg.cell hc ?_⟩
  have : (a.add i).block = a.block := by unfold Addr.add; split <;> rfl
  rw [this]
  exact hne a ha
theorem below_sets {B b : Nat} {a : World} (hb : B ≤ b) : ∀ (vs : List Value) (o : Nat) (w : World), Below B a w → Below B a (w.setCells b o vs)
  | [], _, _, h => h
  | v :: vs, o, w, h => below_sets hb vs (o + 1) _ (h.setCell hb v)
theorem size_sets (b : Nat) : ∀ (vs : List Value) (o : Nat) (w : World), (w.setCells b o vs).heap.size = w.heap.size
  | [], _, _ => rfl
  | v :: vs, o, w => by rw [World.setCells, size_sets b vs, World.size_setCell]
/-- The cells of strings, set anew. -/
theorem sets_strs {w : World} {g : Nat} {xs ys : List (List UInt8)} (hl : ys.length = xs.length) (hc : ∀ i, i < xs.length → w.cell? ⟨g, 0 + i, none⟩ = some (.string ⟨(xs.getD i []).toArray⟩)) :
    ∀ (j : Nat) (x : ByteArray), (ys.map fun l => (⟨l.toArray⟩ : ByteArray))[j]? = some x → (w.setCells g 0 (ys.map fun l => Value.string ⟨l.toArray⟩)).cell? ⟨g, 0 + j, none⟩ = some (.string x) := fun j x hj => by
  rw [List.getElem?_map] at hj
  obtain ⟨l, hl2, rfl⟩ := Option.map_eq_some_iff.1 hj
  obtain ⟨hlt, he⟩ := List.getElem?_eq_some_iff.1 hl2
  have h := World.cell?_setCells_in g (ys.map fun l => Value.string ⟨l.toArray⟩) 0 w (fun i hi => by
    rw [hc i (by rw [List.length_map] at hi; omega)]; rfl) j (by rw [List.length_map]; exact hlt)
  rw [h, List.getElem_map, he]
theorem strs_back : ∀ xs : List (List UInt8), ((xs.map fun l => (⟨l.toArray⟩ : ByteArray)).map fun x => x.data.toList) = xs
  | [] => rfl
  | x :: xs => by rw [List.map_cons, List.map_cons, strs_back xs]
theorem strsOf_all (xs : List (List UInt8)) : Lib.strsOf (fun i => ⟨(xs.getD i []).toArray⟩) xs.length = xs := by
  unfold Lib.strsOf
  refine List.ext_getElem (by simp) (fun i h1 h2 => ?_)
  rw [List.getElem_map, List.getElem_range]
  show xs.getD i [] = xs[i]
  rw [List.getD_eq_getElem?_getD, List.getElem?_eq_getElem h2]; rfl
theorem pow_aux (k A : Nat) (h : A < 13 * k) : 2 ^ A < 10000 ^ k :=
  Nat.lt_of_lt_of_le (Nat.pow_lt_pow_right (by decide) h) (by rw [Nat.pow_mul]; exact Nat.pow_le_pow_left (by decide) k)
theorem pow_bound {k N V : Nat} (h : 10000 ^ k * N ≤ V) (hN : 0 < N) (hV : V < 65536 ^ 256) : k ≤ 315 := by
  obtain ⟨E, hE⟩ : ∃ E, E = 256 := ⟨_, rfl⟩
  rw [← hE] at hV
  rcases Nat.lt_or_ge 315 k with h1 | h1
  · have h2 := pow_aux k (16 * E) (by omega)
    rw [Nat.pow_mul] at h2
    have h6 := Nat.le_mul_of_pos_right (10000 ^ k) hN
    have h7 : (2 ^ 16) ^ E = 65536 ^ E := rfl
    rw [h7] at h2
    generalize 65536 ^ E = A at *
    omega
  · exact h1
theorem pow_step {k N V : Nat} (h : 10000 ^ k * N ≤ V) : 10000 ^ (k + 1) * (N / 10000) ≤ V := by
  rw [Nat.pow_succ, Nat.mul_assoc]
  exact Nat.le_trans (Nat.mul_le_mul_left _ (by omega)) h
theorem dg_len0 {N : Nat} (h : N ≠ 0) : 1 ≤ (dg N).length := by rw [dg_pos h]; simp
set_option maxHeartbeats 6400000 in
set_option maxRecDepth 100000 in
theorem bigText_yes (ad : Option Addr) (n c : Nat) (a : List Nat) (hn : a.length = n) (ha : isB a = true) (da : DigL a) (hn0 : 1 ≤ n) (w : World) (htab : PowTab w) (hS : Sl .u16 w ad n (gi a)) :
    Calls Tryd.prog 13 #[.slice ad n c] w fun e w' => e = .returned (.string ⟨(Lib.decDigits (valL a)).toArray⟩) ∧ Below w.heap.size w w' := by
  obtain ⟨i0, hi, iz0, iz1, iz2⟩ := info_parts info_str
  obtain ⟨hn256, hca⟩ := isB_iff.1 ha
  have hcan : Can a := ⟨da, hca⟩
  have I1 := Lib.hid (fun w h => ha ▸ bigIs_any ad n c a hn (by omega) w h)
  obtain ⟨V, hV⟩ : ∃ V, valL a = V := ⟨_, rfl⟩
  have hVd : dg V = a := by rw [← hV]; exact dg_val hcan
  have hV0 : V ≠ 0 := by
    intro h
    rw [h, dg_zero] at hVd
    rw [← hVd] at hn
    simp at hn; omega
  have hVB : Hid (V < 65536 ^ 256) := Lib.hid (by
    have h := val_lt da
    rw [hV] at h
    exact Nat.lt_of_lt_of_le h (Nat.pow_le_pow_right (by decide) hn256))
  have HV0 := Lib.hid hV0
  rw [hV]
  obtain ⟨O, hO⟩ : ∃ O : ByteArray, (⟨(Lib.decDigits V).toArray⟩ : ByteArray) = O := ⟨_, rfl⟩
  rw [hO]
  have HO := Lib.hid hO
  have HT := Lib.hid htab
  have HS := Lib.hid hS
  have FW := Lib.hid (fun (N L : Nat) (c : Nat) (x : Option Addr) (hL : (dg N).length = L) (hz : L ≤ 1000) (w : World) (hS : Sl .u16 w x L (gi (dg N))) => few_any x L c (dg N) 10000 hL hz (dig_dg N) (by decide) (by decide) w hS)
  have ST0 : Hid (Sl .u16 w ad n (gi (dg V)) ∧ (dg V).length = n) := Lib.hid (by rw [hVd]; exact ⟨hS, hn⟩)
  have n256 : n ≤ 256 := by omega
  clear hS htab hO hV hVd hV0 hca hcan da hn ha hn256
  have q0 : ((n : Int) == 0) = false := beq_f (by omega)
  go_enter Tryd.func13, Tryd.ntmps13
  go_wp2_with fail
  with_reducible refine (I1.out _ HS.out).mono ?_
  rintro e w' ⟨rfl, rfl⟩
  go_wp2_with fail
  go_loopg [0, 3] V (fun g s p wr => ∃ (N L : Nat) (xs : List (List UInt8)) (x : Option Addr) (cc : Nat), s = .slice x L cc ∧ Hid ((dg N).length = L) ∧ L ≤ 256 ∧ Sl .u16 wr x L (gi (dg N)) ∧ OwnS wr w.heap.size p xs ∧ Hid (TextSo V N xs) ∧ Hid (∀ y ∈ xs, y.length ≤ 4) ∧ Hid (10000 ^ xs.length * N ≤ V) ∧ xs.length ≤ 316 ∧ Hid (xs.length = 0 → N ≠ 0) ∧ N ≤ g ∧ Below w.heap.size w wr)
  case atStart => exact ⟨V, n, [], ad, c, rfl, Lib.hid ST0.out.2, n256, ST0.out.1, OwnS.nil _ _, Lib.hid (TextSo.start HV0.out), Lib.hid (fun y hy => by cases hy), Lib.hid (by simp), by decide, Lib.hid (fun _ => HV0.out), Nat.le_refl _, Below.refl _ _⟩
  case round =>
    obtain ⟨N, L, xs, x, cc, rfl, hL, hL256, hsl, hown, HTX, HX, HP, hx316, HX0, hNg, hbw⟩ := hrel
    obtain ⟨wo, rfl⟩ : ∃ wo : World, wo = wr := ⟨_, rfl⟩
    have hzo := hbw.size
    clear HS ST0 I1
    replace hown := Lib.hid hown
    by_cases hN : N = 0
    · have hx0 : xs.length ≠ 0 := fun h => HX0.out h hN
      subst hN
      obtain rfl : L = 0 := by rw [← hL.out, dg_zero]; rfl
      have hfl := HTX.out.done
      have hx0' : 0 < xs.length := by omega
      obtain ⟨g, cap, rfl, hbg, hcap, rr⟩ := owns_row hown.out hx0' (fun i => .string ⟨(xs.getD i []).toArray⟩) (fun t ht => by
        rw [Nat.mul_one] at ht
        rw [List.getElem?_map, List.getElem?_eq_getElem ht, List.getD_eq_getElem?_getD, List.getElem?_eq_getElem ht]; rfl)
      rw [Nat.mul_one] at rr
      have rgl := rr.lt
      have hcells : ∀ i, i < xs.length → wo.cell? ⟨g, 0 + i, none⟩ = some (.string ⟨(xs.getD i []).toArray⟩) := fun i hi => by rw [Nat.zero_add]; exact rr.at i hi
      have RV := Lib.hid (Tryd.slices_Reverse_string_cells g 0 xs.length cap (fun i => ⟨(xs.getD i []).toArray⟩) wo (by omega) hcells (fun i hi => by rw [Nat.zero_add]; exact rr.free i hi))
      rw [strsOf_all] at RV
      have JN := Lib.hid (fun (q : Nat) => Tryd.strings_Join g 0 cap (xs.reverse.map fun l => (⟨l.toArray⟩ : ByteArray)) ⟨#[]⟩ ((wo.drewN q).setCells g 0 (xs.reverse.map fun l => Value.string ⟨l.toArray⟩))
        (sets_strs (w := wo.drewN q) (by simp) hcells) (by rw [size_sets]; exact rgl) (by simp; omega) (by simp; omega) (by
          have e := strs_back xs.reverse
          have e2 := flat_len xs.reverse (fun y hy => HX.out y (List.mem_reverse.1 hy))
          rw [List.length_reverse] at e2
          show (Lib.join ((xs.reverse.map fun l => (⟨l.toArray⟩ : ByteArray)).map fun x => x.data.toList) []).length ≤ _
          rw [e, join_flat]
          omega))
      have HB := Lib.hid (fun (q : Nat) => below_sets (B := w.heap.size) hbg (xs.reverse.map fun l => Value.string ⟨l.toArray⟩) 0 (wo.drewN q) (below_drewN hbw q))
      have HR : Hid ((⟨(Lib.join ((xs.reverse.map fun l => (⟨l.toArray⟩ : ByteArray)).map fun x => x.data.toList) []).toArray⟩ : ByteArray) = O) := Lib.hid (by
        rw [← HO.out, strs_back, join_flat, hfl])
      have JN := Lib.hid (show ∀ q : Nat, Calls Tryd.prog 29 #[.slice (some ⟨g, 0, none⟩) xs.length cap, .string { data := #[] }] ((wo.drewN q).setCells g 0 (xs.reverse.map fun l => Value.string ⟨l.toArray⟩)) (fun e w' => e = .returned (.string O) ∧ Below ((wo.drewN q).setCells g 0 (xs.reverse.map fun l => Value.string ⟨l.toArray⟩)).heap.size ((wo.drewN q).setCells g 0 (xs.reverse.map fun l => Value.string ⟨l.toArray⟩)) w') from fun q => by
        have h := JN.out q
        rw [List.length_map, List.length_reverse] at h
        refine h.mono ?_
        rintro e w' ⟨rfl, hb⟩
        exact ⟨by rw [← HR.out], hb⟩)
      clear hx0 hfl rr hcells HTX HX HX0 HR hsl HO
      go_wp2_with fail
      with_reducible refine (RV.out).mono ?_
      rintro e w2 ⟨rfl, q, rfl⟩
      have hb2 := HB.out q
      have JQ := JN.out q
      generalize (wo.drewN q).setCells g 0 (xs.reverse.map fun l => Value.string ⟨l.toArray⟩) = w2 at *
      have hz2 := hb2.size
      have JQ := Lib.hid JQ
      clear JN HB RV
      go_wp2_with fail
      with_reducible refine (JQ.out).mono ?_
      rintro e w3 ⟨rfl, hb3⟩
      go_wp2_with fail
      go_ret
      exact ⟨rfl, hb2.trans (hb3.mono hz2)⟩
    · have hL1 : 1 ≤ L := by rw [← hL.out]; exact dg_len0 hN
      have hL1i : (0 : Int) < (L : Int) := by omega
      have FWW := FW.out N L cc x hL.out (by omega) wo hsl
      rw [val_dg, show ((10000 : Nat) : Int) = 10000 from rfl] at FWW
      obtain ⟨M, hM⟩ : ∃ M, (dg (N / 10000)).length = M := ⟨_, rfl⟩
      have hM0 : N / 10000 = 0 → M = 0 := fun h => by rw [← hM, h, dg_zero]; rfl
      have hM1 : ¬ N / 10000 = 0 → 1 ≤ M := fun h => by rw [← hM]; exact dg_len0 h
      rw [hM] at FWW
      have HM := Lib.hid hM
      replace hM0 := Lib.hid hM0
      replace hM1 := Lib.hid hM1
      clear hM
      have h315 := pow_bound HP.out (by omega) hVB.out
      have HT2 := Lib.hid (HTX.out.step hN)
      have HP2 : Hid (10000 ^ (xs ++ [piece N]).length * (N / 10000) ≤ V) := Lib.hid (by rw [List.length_append]; exact pow_step HP.out)
      have HX2 : Hid (∀ y ∈ xs ++ [piece N], y.length ≤ 4) := Lib.hid (fun y hy => by
        rcases List.mem_append.1 hy with h | h
        · exact HX.out y h
        · rw [List.mem_singleton.1 h]; exact piece_len N)
      have HL2 : Hid ((xs ++ [piece N]).length ≤ 316) := Lib.hid (by rw [List.length_append, List.length_singleton]; omega)
      have HZ2 : Hid ((xs ++ [piece N]).length = 0 → N / 10000 ≠ 0) := Lib.hid (fun h => by simp at h)
      obtain ⟨r, hr⟩ : ∃ r : Nat, N % 10000 = r := ⟨_, rfl⟩
      have hr4 : r ≤ 9999 := by omega
      obtain ⟨nd1, nd2⟩ := nDigits4 N
      rw [hr] at FWW nd1 nd2
      obtain ⟨t, ht⟩ : ∃ t : ByteArray, t = ⟨(Lib.decDigits r).toArray⟩ := ⟨_, rfl⟩
      have htl : t.data.toList = Lib.decDigits r := by rw [ht]
      have hts : t.size = Lib.nDigits r := by rw [ht]; show (Lib.decDigits r).length = _; rw [Lib.decDigits_length]
      have IT := Lib.hid (fun (W : World) (h : PowTab W) => by
        have := itoa_any (r : Int) (by omega) (by omega) W h
        rw [Int.toNat_natCast, ← ht] at this
        exact this)
      have t1 : 1 ≤ t.size := by omega
      have t4 : t.size ≤ 4 := by omega
      obtain ⟨u, hu⟩ : ∃ u : ByteArray, u = ⟨(Lib.repeatL [48] (4 - t.size)).toArray⟩ := ⟨_, rfl⟩
      have hul : u.data.toList = List.replicate (4 - t.size) 48 := by rw [hu, repeat_48]
      have hus : u.size = 4 - t.size := by
        have h : u.data.toList.length = 4 - t.size := by rw [hul, List.length_replicate]
        have h2 : u.data.toList.length = u.size := by simp
        omega
      have RP := Lib.hid (fun (W : World) => by
        have h := Tryd.strings_Repeat ⟨#[48]⟩ (4 - t.size) W (by omega) (show 1 * (4 - t.size) ≤ _ by omega)
        rw [show (⟨#[48]⟩ : ByteArray).data.toList = [48] from rfl, ← hu, show ((4 - t.size : Nat) : Int) = 4 - (t.size : Int) by omega] at h
        exact h)
      have HS1 : Hid (N / 10000 = 0 → t.data.toList = piece N) := Lib.hid (fun h => by unfold piece; rw [if_pos h, hr, htl])
      have HS2 : Hid (¬ N / 10000 = 0 → (u ++ t).data.toList = piece N) := Lib.hid (fun h => by
        have := piece_pad h (t := t.size) (by rw [hr]; exact hts)
        rw [hr] at this
        rw [← this]
        simp [hul, htl])
      have su : u.size + t.size ≤ 4 := by omega
      have FWW := Lib.hid FWW
      have HLT : Hid (xs.length ≤ 315) := Lib.hid h315
      clear ht htl hts hu hul hus nd1 nd2 hsl
      go_wp2_with fail
      with_reducible refine (FWW.out).mono ?_
      rintro e w5 ⟨rfl, hq5, s5, hb5⟩
      have hw5 : Below w.heap.size w w5 := hbw.trans (hb5.mono hzo)
      have hz5 := hw5.size
      have hown5 : OwnS w5 w.heap.size _ xs := owns_beyond hown.out hb5
      clear hb5 FWW
      replace hown5 := Lib.hid hown5
      replace s5 := Lib.hid s5
      go_wp2_with fail
      with_reducible refine (IT.out _ (tabIs_below HT.out hw5)).mono ?_
      rintro e w6 ⟨rfl, hb6⟩
      have hown6 : OwnS w6 w.heap.size _ xs := owns_beyond hown5.out hb6
      have s6 := s5.out.beyond hb6
      have hw6 : Below w.heap.size w w6 := hw5.trans (hb6.mono hz5)
      have hz6 := hw6.size
      clear hb6 s5 hown5
      replace hown6 := Lib.hid hown6
      replace s6 := Lib.hid s6
      by_cases hq : N / 10000 = 0
      · obtain rfl : M = 0 := hM0.out hq
        have HQ := Lib.hid hq
        clear hq
        go_wp2_with (at_builtin; refine wpList_append_own _ rfl _ _ 48 rfl w.heap.size 9 i0 (.string { data := #[] }) 1 16 Tryd.underlying48 hi iz0 iz1 iz2 rfl (by decide) _ _ _ rfl ((hown6.out).alloc _) ⟨w6.heap.size, 0, none⟩ 1 1 [.string t] rfl rfl (cell_one_new _ _ _) one_str (by unfold maxLen; omega) (by omega) (by first | assumption | (simp; omega)) ?_; intro v9 w9 hown9 hgrow9 _)
        have hw9 : Below w.heap.size w w9 := Below.grown (hw6.alloc (by first | assumption | omega) _) hgrow9 (by first | assumption | (simp; omega)) (fun k hk => ownS_lt hown.out k hk)
        have q9 : Sl .u16 w9 (some ⟨wo.heap.size, 0, none⟩) 0 (gi (dg (N / 10000))) := (s6.out.alloc _).grown hgrow9 (fun x hx => by
          injection hx with hx
          subst hx
          intro hk
          exact absurd (World.ownsRow.lt hown.out _ hk.symm).2 (Nat.lt_irrefl _))
        have Q9 := Lib.hid q9
        have O9 := Lib.hid (ownS_app (p := piece N) (HS1.out HQ.out) hown9)
        clear hgrow9 hown9 q9
        go_wp2_with fail
        go_roundg (N / 10000)
        case measure => omega
        case rel => exact ⟨N / 10000, 0, xs ++ [piece N], _, L, rfl, HM, by omega, Q9.out, O9.out, HT2, HX2, HP2, HL2.out, HZ2, Nat.le_refl _, hw9⟩
      · have hM2 := hM1.out hq
        have hMi : (0 : Int) < (M : Int) := by omega
        have HQ := Lib.hid hq
        clear hq
        go_wp2_with fail
        with_reducible refine (RP.out _).mono ?_
        rintro e w7 ⟨rfl, hb7⟩
        have hown7 : OwnS w7 w.heap.size _ xs := owns_beyond hown6.out hb7
        have s7 := s6.out.beyond hb7
        have hw7 : Below w.heap.size w w7 := hw6.trans (hb7.mono hz6)
        have hz7 := hw7.size
        clear hb7 s6 hown6
        replace hown7 := Lib.hid hown7
        replace s7 := Lib.hid s7
        go_wp2_with (at_builtin; refine wpList_append_own _ rfl _ _ 48 rfl w.heap.size 9 i0 (.string { data := #[] }) 1 16 Tryd.underlying48 hi iz0 iz1 iz2 rfl (by decide) _ _ _ rfl ((hown7.out).alloc _) ⟨w7.heap.size, 0, none⟩ 1 1 [.string (u ++ t)] rfl rfl (cell_one_new _ _ _) one_str (by unfold maxLen; omega) (by omega) (by first | assumption | (simp; omega)) ?_; intro v9 w9 hown9 hgrow9 _)
        have hw9 : Below w.heap.size w w9 := Below.grown (hw7.alloc (by first | assumption | omega) _) hgrow9 (by first | assumption | (simp; omega)) (fun k hk => ownS_lt hown.out k hk)
        have q9 : Sl .u16 w9 (some ⟨wo.heap.size, 0, none⟩) M (gi (dg (N / 10000))) := (s7.out.alloc _).grown hgrow9 (fun x hx => by
          injection hx with hx
          subst hx
          intro hk
          exact absurd (World.ownsRow.lt hown.out _ hk.symm).2 (Nat.lt_irrefl _))
        have Q9 := Lib.hid q9
        have O9 := Lib.hid (ownS_app (p := piece N) (HS2.out HQ.out) hown9)
        clear hgrow9 hown9 q9
        go_wp2_with fail
        go_roundg (N / 10000)
        case measure => omega
        case rel => exact ⟨N / 10000, M, xs ++ [piece N], _, L, rfl, HM, by omega, Q9.out, O9.out, HT2, HX2, HP2, HL2.out, HZ2, Nat.le_refl _, hw9⟩
end Go.Proofs.YtogmmhacjndebaaDoor
