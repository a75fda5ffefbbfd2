/- Plain law: of two times the later one's text comes later. No program. -/
import Derived.Test.YtoidmnleedkbiaaDoorWhen
namespace Go.Proofs.YtoidmnleedkbiaaDoor
open Go.Lib
set_option linter.unusedSimpArgs false
set_option linter.unusedVariables false
/-- Two texts of one length stand to each other as two numbers do. -/
def Rk (p q : List UInt8) (x y : Nat) : Prop := p.length = q.length ∧ (Op.bytesLess p q = true ↔ x < y) ∧ (p = q ↔ x = y)
theorem bl_app : ∀ (p q a b : List UInt8), p.length = q.length → (Op.bytesLess (p ++ a) (q ++ b) = true ↔ Op.bytesLess p q = true ∨ (p = q ∧ Op.bytesLess a b = true))
  | [], [], a, b, _ => by simp [Op.bytesLess]
  | x :: p, y :: q, a, b, h => by
    have ih := bl_app p q a b (by simpa using h)
    simp only [List.cons_append, Op.bytesLess, Bool.or_eq_true, Bool.and_eq_true, beq_iff_eq, ih, List.cons.injEq]
    constructor
    · rintro (h | ⟨h, g | ⟨g, k⟩⟩)
      · exact Or.inl (Or.inl h)
      · exact Or.inl (Or.inr ⟨h, g⟩)
      · exact Or.inr ⟨⟨h, g⟩, k⟩
    · rintro ((h | ⟨h, g⟩) | ⟨⟨h, g⟩, k⟩)
      · exact Or.inl h
      · exact Or.inr ⟨h, Or.inl g⟩
      · exact Or.inr ⟨h, Or.inr ⟨g, k⟩⟩
  | [], _ :: _, _, _, h => by simp at h
  | _ :: _, [], _, _, h => by simp at h
theorem Rk.app {p q a b : List UInt8} {x y u v : Nat} (B : Nat) (h : Rk p q x y) (g : Rk a b u v) (hu : u < B) (hv : v < B) : Rk (p ++ a) (q ++ b) (x * B + u) (y * B + v) := by
  obtain ⟨h1, h2, h3⟩ := h
  obtain ⟨g1, g2, g3⟩ := g
  refine ⟨by rw [List.length_append, List.length_append, h1, g1], ?_, ?_⟩
  · rw [bl_app p q a b h1, h2, h3, g2]
    rcases Nat.lt_trichotomy x y with c | c | c
    · have := Nat.mul_le_mul_right B (show x + 1 ≤ y from c)
      rw [Nat.succ_mul] at this
      exact ⟨fun _ => by omega, fun _ => Or.inl c⟩
    · subst c
      exact ⟨fun h => by omega, fun h => Or.inr ⟨rfl, by omega⟩⟩
    · have := Nat.mul_le_mul_right B (show y + 1 ≤ x from c)
      rw [Nat.succ_mul] at this
      exact ⟨fun h => by omega, fun h => by omega⟩
  · rw [show (p ++ a = q ++ b ↔ p = q ∧ a = b) from ⟨fun e => List.append_inj e h1, fun e => by rw [e.1, e.2]⟩, h3, g3]
    rcases Nat.lt_trichotomy x y with c | c | c
    · have := Nat.mul_le_mul_right B (show x + 1 ≤ y from c)
      rw [Nat.succ_mul] at this
      exact ⟨fun h => by omega, fun h => by omega⟩
    · subst c
      exact ⟨fun h => by omega, fun h => ⟨rfl, by omega⟩⟩
    · have := Nat.mul_le_mul_right B (show y + 1 ≤ x from c)
      rw [Nat.succ_mul] at this
      exact ⟨fun h => by omega, fun h => by omega⟩
theorem Rk.one (a b : UInt8) : Rk [a] [b] a.toNat b.toNat := by
  refine ⟨rfl, ?_, ?_⟩
  · simp [Op.bytesLess, UInt8.lt_iff_toNat_lt]
  · simp [← UInt8.toNat_inj]
theorem Rk.sep (c : UInt8) : Rk [c] [c] 0 0 := by
  refine ⟨rfl, ?_, ?_⟩
  · simp [Op.bytesLess]
  · simp
theorem Rk.dig (a b : Nat) : Rk [cdg a] [cdg b] (a % 10) (b % 10) := by
  have h := Rk.one (cdg a) (cdg b)
  have ha := cdg_val a
  have hb := cdg_val b
  have h1 : 48 ≤ (cdg a).toNat := by unfold cdg; rw [UInt8.toNat_ofNat']; omega
  have h2 : 48 ≤ (cdg b).toNat := by unfold cdg; rw [UInt8.toNat_ofNat']; omega
  obtain ⟨p, q, r⟩ := h
  exact ⟨p, by rw [q]; omega, by rw [r]; omega⟩
theorem Rk.pad : ∀ (k a b : Nat), a < 10 ^ k → b < 10 ^ k → Rk (padK k a) (padK k b) a b
  | 0, a, b, ha, hb => by
    obtain rfl : a = 0 := by simpa using ha
    obtain rfl : b = 0 := by simpa using hb
    exact ⟨rfl, by simp [padK, Op.bytesLess], by simp⟩
  | k + 1, a, b, ha, hb => by
    rw [Nat.pow_succ] at ha hb
    have h := (Rk.pad k (a / 10) (b / 10) (by omega) (by omega)).app 10 (Rk.dig a b) (by omega) (by omega)
    rw [show a / 10 * 10 + a % 10 = a by omega, show b / 10 * 10 + b % 10 = b by omega] at h
    exact h
def pre19 (y m d h i s : Nat) : List UInt8 := ((((((((((padK 4 y ++ [45]) ++ padK 2 m) ++ [45]) ++ padK 2 d) ++ [84]) ++ padK 2 h) ++ [58]) ++ padK 2 i) ++ [58]) ++ padK 2 s)
theorem pre19_len (y m d h i s : Nat) : (pre19 y m d h i s).length = 19 := by unfold pre19; simp [padK_length]
theorem txt_pre (y m d h i s f : Nat) : (whenTxt y m d h i s f).take 19 = pre19 y m d h i s := by
  have e : whenTxt y m d h i s f = pre19 y m d h i s ++ (if f = 0 then [90] else 46 :: (padK 3 f ++ [90])) := by
    unfold whenTxt pre19
    simp [List.append_assoc]
  rw [e]
  exact List.take_left' (pre19_len y m d h i s)
theorem rk_pre (y m d h i s z n e g j t : Nat) (hy : y < 10000) (hm : m < 100) (hd : d < 100) (hh : h < 100) (hi : i < 100) (hs : s < 100)
    (hz : z < 10000) (hn : n < 100) (he : e < 100) (hg : g < 100) (hj : j < 100) (ht : t < 100) :
    Rk (pre19 y m d h i s) (pre19 z n e g j t) (((((y * 100 + m) * 100 + d) * 100 + h) * 100 + i) * 100 + s) (((((z * 100 + n) * 100 + e) * 100 + g) * 100 + j) * 100 + t) := by
  have r := (((((((((((Rk.pad 4 y z hy hz).app 1 (Rk.sep 45) (by omega) (by omega)).app 100 (Rk.pad 2 m n hm hn) hm hn).app 1 (Rk.sep 45) (by omega) (by omega)).app 100 (Rk.pad 2 d e hd he) hd he).app 1 (Rk.sep 84) (by omega) (by omega)).app 100 (Rk.pad 2 h g hh hg) hh hg).app 1 (Rk.sep 58) (by omega) (by omega)).app 100 (Rk.pad 2 i j hi hj) hi hj).app 1 (Rk.sep 58) (by omega) (by omega)).app 100 (Rk.pad 2 s t hs ht) hs ht)
  simp only [Nat.mul_one, Nat.add_zero] at r
  exact r
theorem ymd_le {D y m d E z n e : Int} (h : Ymd D y m d) (g : Ymd E z n e) (hle : D < E) : y < z ∨ (y = z ∧ (m < n ∨ (m = n ∧ d < e))) := by
  have a := h.in_year
  have b := g.in_year
  rcases Int.lt_trichotomy y z with c | c | c
  · exact Or.inl c
  · refine Or.inr ⟨c, ?_⟩
    subst c
    obtain ⟨_, _, h3, h4, h5, h6, h7⟩ := h
    obtain ⟨_, _, g3, g4, g5, g6, g7⟩ := g
    have hs := cumd_succ y m h3 h4
    have gs := cumd_succ y n g3 g4
    rcases Int.lt_trichotomy m n with k | k | k
    · exact Or.inl k
    · subst k; exact Or.inr ⟨rfl, by omega⟩
    · have := cumd_step y n m k g3 (by omega); omega
  · have := ahd_mono c; omega
def key6 (y m d h i s : Nat) : Nat := ((((y * 100 + m) * 100 + d) * 100 + h) * 100 + i) * 100 + s
theorem key_lt (y m d h i s z n e g j t : Nat) (hm : m < 100) (hd : d < 100) (hh : h < 100) (hi : i < 100) (hs : s < 100) (hl : y < z ∨ (y = z ∧ (m < n ∨ (m = n ∧ d < e)))) : key6 y m d h i s < key6 z n e g j t := by
  unfold key6
  rcases hl with hl | ⟨rfl, hl | ⟨rfl, hl⟩⟩ <;> omega
theorem key_lt2 (y m d h i s g j t : Nat) (hi : i < 100) (hs : s < 100) (hl : h < g ∨ (h = g ∧ (i < j ∨ (i = j ∧ s < t)))) : key6 y m d h i s < key6 y m d g j t := by
  unfold key6
  rcases hl with hl | ⟨rfl, hl | ⟨rfl, hl⟩⟩ <;> omega
theorem clock_lt {S T : Int} (S0 : 0 ≤ S) (h : S < T) : (S / 3600).toNat < (T / 3600).toNat ∨ ((S / 3600).toNat = (T / 3600).toNat ∧ ((S / 60 % 60).toNat < (T / 60 % 60).toNat ∨ ((S / 60 % 60).toNat = (T / 60 % 60).toNat ∧ (S % 60).toNat < (T % 60).toNat))) := by omega
theorem clock_bd {S : Int} (S0 : 0 ≤ S) (S1 : S < 86400) : (S / 3600).toNat < 100 ∧ (S / 60 % 60).toNat < 100 ∧ (S % 60).toNat < 100 := by omega
/-- The texts of two times up to the second, as their numbers of seconds stand. -/
theorem when_rise {D y m d S E z n e T : Int} (h : Ymd D y m d) (g : Ymd E z n e) (S0 : 0 ≤ S) (S1 : S < 86400) (T0 : 0 ≤ T) (T1 : T < 86400) (hle : D * 86400 + S ≤ E * 86400 + T) (f k : Nat) :
    (Op.bytesLess ((whenTxt y.toNat m.toNat (d + 1).toNat (S / 3600).toNat (S / 60 % 60).toNat (S % 60).toNat f).take 19) ((whenTxt z.toNat n.toNat (e + 1).toNat (T / 3600).toNat (T / 60 % 60).toNat (T % 60).toNat k).take 19) = true ∨ (whenTxt y.toNat m.toNat (d + 1).toNat (S / 3600).toNat (S / 60 % 60).toNat (S % 60).toNat f).take 19 = (whenTxt z.toNat n.toNat (e + 1).toNat (T / 3600).toNat (T / 60 % 60).toNat (T % 60).toNat k).take 19) ∧
    ((whenTxt y.toNat m.toNat (d + 1).toNat (S / 3600).toNat (S / 60 % 60).toNat (S % 60).toNat f).take 19 = (whenTxt z.toNat n.toNat (e + 1).toNat (T / 3600).toNat (T / 60 % 60).toNat (T % 60).toNat k).take 19 ↔ D * 86400 + S = E * 86400 + T) := by
  rw [txt_pre, txt_pre]
  have hl := mlen_bd y m
  have hr := mlen_bd z n
  have hu := ymd_le h g
  have hq : D = E → y = z ∧ m = n ∧ d = e := by intro q; subst q; exact h.unique g
  obtain ⟨h1, h2, h3, h4, h5, h6, -⟩ := h
  obtain ⟨g1, g2, g3, g4, g5, g6, -⟩ := g
  obtain ⟨a1, a2, a3⟩ := clock_bd S0 S1
  obtain ⟨b1, b2, b3⟩ := clock_bd T0 T1
  obtain ⟨-, R2, R3⟩ := rk_pre y.toNat m.toNat (d + 1).toNat (S / 3600).toNat (S / 60 % 60).toNat (S % 60).toNat z.toNat n.toNat (e + 1).toNat (T / 3600).toNat (T / 60 % 60).toNat (T % 60).toNat
    (by omega) (by omega) (by omega) a1 a2 a3 (by omega) (by omega) (by omega) b1 b2 b3
  rw [R2, R3]
  clear R2 R3
  show (key6 _ _ _ _ _ _ < key6 _ _ _ _ _ _ ∨ key6 _ _ _ _ _ _ = key6 _ _ _ _ _ _) ∧ (key6 _ _ _ _ _ _ = key6 _ _ _ _ _ _ ↔ _)
  rcases Int.lt_trichotomy D E with c | c | c
  · have u := hu c
    have k := key_lt y.toNat m.toNat (d + 1).toNat (S / 3600).toNat (S / 60 % 60).toNat (S % 60).toNat z.toNat n.toNat (e + 1).toNat (T / 3600).toNat (T / 60 % 60).toNat (T % 60).toNat (by omega) (by omega) a1 a2 a3 (by clear hq hu; omega)
    exact ⟨Or.inl k, fun q => absurd q (Nat.ne_of_lt k), fun q => by clear k; omega⟩
  · obtain ⟨rfl, rfl, rfl⟩ := hq c
    subst c
    rcases Int.lt_trichotomy S T with c | c | c
    · have k := key_lt2 y.toNat m.toNat (d + 1).toNat (S / 3600).toNat (S / 60 % 60).toNat (S % 60).toNat (T / 3600).toNat (T / 60 % 60).toNat (T % 60).toNat a2 a3 (clock_lt S0 c)
      exact ⟨Or.inl k, fun q => absurd q (Nat.ne_of_lt k), fun q => by clear k; omega⟩
    · subst c
      exact ⟨Or.inr rfl, fun _ => rfl, fun _ => rfl⟩
    · clear hu hq; omega
  · clear hu hq; omega
end Go.Proofs.YtoidmnleedkbiaaDoor
