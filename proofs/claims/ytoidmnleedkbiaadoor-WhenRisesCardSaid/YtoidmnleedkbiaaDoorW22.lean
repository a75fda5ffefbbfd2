/- The contract of when.Parse: whenP. Condition: a text of at most 1000 bytes. -/
import Derived.Test.YtoidmnleedkbiaaDoorW21
namespace Go.Proofs.YtoidmnleedkbiaaDoor
open Go.RowKit
set_option linter.unusedSimpArgs false
set_option linter.unusedVariables false
theorem in20_get (t : ByteArray) : in20 t ↔ t.data.toList.length = 20 ∧ t.data.toList[4]? = some 45 ∧ t.data.toList[7]? = some 45 ∧ t.data.toList[10]? = some 84 ∧ t.data.toList[13]? = some 58 ∧ t.data.toList[16]? = some 58 ∧ t.data.toList[19]? = some 90 := by
  unfold in20
  rw [byteIs_get (by decide), byteIs_get (by decide), byteIs_get (by decide), byteIs_get (by decide), byteIs_get (by decide), byteIs_get (by decide)]
  have : t.data.toList.length = t.size := by simp
  rw [this]
  exact Iff.rfl
def whenEnd (o : Option Int) : Value := .tuple #[.int .i64 (oV o), .bool o.isSome]
theorem whenParse_any (s : ByteArray) (hz : s.size ≤ 1000) (w : World) :
    Calls Tryd.prog 6 #[.string s] w fun e w' => e = .returned (whenEnd (whenP s.data.toList)) ∧ Below w.heap.size w w' := by
  have hl : s.data.toList.length = s.size := by simp
  by_cases h24 : s.size = 24
  · by_cases q0 : byteIs s 19 46
    · have hj := joined s h24
      obtain ⟨t, ht⟩ : ∃ t, s.extract 0 19 ++ s.extract 23 24 = t := ⟨_, rfl⟩
      rw [ht] at hj
      have htl : t.data.toList.length = 20 := by rw [hj]; simp; omega
      have hts : t.size = 20 := by simpa using htl
      have hf : ∀ a b : Nat, a ≤ b → b ≤ 19 → fld t.data.toList a b = fld s.data.toList a b := by
        intro a b hab hb
        unfold fld
        rw [hj]
        congr 1
        rw [List.drop_append_of_le_length (by simp; omega), List.take_append_of_le_length (by simp; omega), List.drop_take, List.take_take]
        congr 1
        omega
      have hg : ∀ k : Nat, k < 19 → t.data.toList[k]? = s.data.toList[k]? := by
        intro k hk
        rw [hj, List.getElem?_append_left (by simp; omega), List.getElem?_take_of_lt hk]
      have hg19 : t.data.toList[19]? = s.data.toList[23]? := by
        rw [hj, List.getElem?_append_right (by simp; omega)]
        simp
        congr 1
        omega
      have hsh : in20 t ↔ whenShape s.data.toList := by
        rw [in20_get, hg 4 (by omega), hg 7 (by omega), hg 10 (by omega), hg 13 (by omega), hg 16 (by omega), hg19]
        have h0 := (byteIs_get (by decide)).1 q0
        unfold whenShape
        constructor
        · rintro ⟨-, a, b, c, d, e, f⟩
          exact ⟨Or.inl ⟨by omega, h0, f⟩, a, b, c, d, e⟩
        · rintro ⟨h | h, a, b, c, d, e⟩
          · exact ⟨htl, a, b, c, d, e, h.2.2⟩
          · omega
      by_cases hin : in20 t
      · have hin2 := hin
        obtain ⟨-, ⟨_, a⟩, ⟨_, b⟩, ⟨_, c⟩, ⟨_, d⟩, ⟨_, e⟩, ⟨_, f⟩⟩ := hin2
        obtain ⟨_, q⟩ := q0
        refine (parse24_any s t h24 q ht hts a b c d e f w).mono ?_
        rintro r w' ⟨rfl, hb⟩
        refine ⟨?_, hb⟩
        rw [hf 0 4 (by omega) (by omega), hf 5 7 (by omega) (by omega), hf 8 10 (by omega) (by omega), hf 11 13 (by omega) (by omega), hf 14 16 (by omega) (by omega), hf 17 19 (by omega) (by omega)]
        congr 1
        unfold whenP
        rw [if_pos (show s.data.toList.length = 24 by omega)]
        have hs := hsh.1 hin
        split
        · next hk => rw [if_pos ⟨hs, hk⟩]; rfl
        · next hk => rw [if_neg (fun h => hk h.2)]; rfl
      · refine (parseOut24_any s t h24 ht hts q0 hin w).mono ?_
        rintro r w' ⟨rfl, hb⟩
        refine ⟨?_, hb⟩
        unfold whenP
        rw [if_neg (fun h => hin (hsh.2 h.1))]
        rfl
    · refine (parseOut24n_any s h24 q0 w).mono ?_
      rintro r w' ⟨rfl, hb⟩
      refine ⟨?_, hb⟩
      unfold whenP
      rw [if_neg]
      · rfl
      · rintro ⟨⟨h | h, -⟩, -⟩
        · exact q0 ((byteIs_get (by decide)).2 h.2.1)
        · omega
  · have hsh : in20 s ↔ whenShape s.data.toList := by
      rw [in20_get]
      unfold whenShape
      constructor
      · rintro ⟨z, a, b, c, d, e, f⟩
        exact ⟨Or.inr ⟨z, f⟩, a, b, c, d, e⟩
      · rintro ⟨h | h, a, b, c, d, e⟩
        · omega
        · exact ⟨h.1, a, b, c, d, e, h.2⟩
    by_cases hin : in20 s
    · have hin2 := hin
      obtain ⟨z, ⟨_, a⟩, ⟨_, b⟩, ⟨_, c⟩, ⟨_, d⟩, ⟨_, e⟩, ⟨_, f⟩⟩ := hin2
      refine (parse20_any s z a b c d e f w).mono ?_
      rintro r w' ⟨rfl, hb⟩
      refine ⟨?_, hb⟩
      congr 1
      unfold whenP
      rw [if_neg (show ¬ s.data.toList.length = 24 by omega)]
      have hs := hsh.1 hin
      split
      · next hk => rw [if_pos ⟨hs, hk⟩]; rfl
      · next hk => rw [if_neg (fun h => hk h.2)]; rfl
    · refine (parseOut20_any s hz h24 hin w).mono ?_
      rintro r w' ⟨rfl, hb⟩
      refine ⟨?_, hb⟩
      unfold whenP
      rw [if_neg (fun h => hin (hsh.2 h.1))]
      rfl
end Go.Proofs.YtoidmnleedkbiaaDoor
