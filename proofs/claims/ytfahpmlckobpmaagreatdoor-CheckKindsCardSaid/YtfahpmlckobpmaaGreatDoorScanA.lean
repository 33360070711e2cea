/-
  The reader of texts (layer 4): what its functions tell.
-/
import Derived.Test.YtfahpmlckobpmaaGreatDoorSeat
import Derived.Test.YtfahpmlckobpmaaGreatDoorHp
set_option linter.unusedSimpArgs false
set_option linter.unusedVariables false
set_option linter.unusedSectionVars false
namespace Go.Proofs.YtfahpmlckobpmaaGreatDoor.Pi
open Go

theorem indexByte_c {s : List Nat} {c : Nat} (hc : c < 256) (h : AH) : C EE K_internal_bytealg_IndexByteString [.str s, .int .u8 (c : Int)] h = some (.int .i64 (idxB c s 0), h) := by
  rw [C_ext (E := EE) (f := K_internal_bytealg_IndexByteString) (g := kIndexByte) rfl]
  show kIndexByte [.str s, .int .u8 (.ofNat c)] h = _
  simp only [kIndexByte, hc, if_true]

theorem idxB_le (c : Nat) : ∀ (s : List Nat) (k : Nat), idxB c s k = -1 ∨ ∃ j : Nat, idxB c s k = ((k + j : Nat) : Int) ∧ j < s.length ∧ s[j]? = some c
  | [], k => .inl rfl
  | b :: r, k => by
    simp only [idxB]
    by_cases hb : b = c
    · exact .inr ⟨0, by simp [hb], by simp, by simp [hb]⟩
    · simp only [hb, if_false]
      rcases idxB_le c r (k + 1) with h | ⟨j, h1, h2, h3⟩
      · exact .inl h
      · exact .inr ⟨j + 1, by rw [h1]; congr 1; omega, by simp; omega, by simpa using h3⟩

/-- does a text begin so? -/
def hasP (s t : List Nat) : Bool := decide (s.take t.length = t)
theorem hasP_len {s t : List Nat} (h : hasP s t = true) : t.length ≤ s.length := by
  have h1 := congrArg List.length (of_decide_eq_true h)
  rw [List.length_take] at h1; omega

section
variable {h : AH} (hok : h.ok)
include hok

theorem slIndexByte_c {s : List Nat} {c : Nat} (hc : c < 256) : C EE K_internal_stringslite_IndexByte [.str s, .int .u8 (c : Int)] h = some (.int .i64 (idxB c s 0), h) := by
  rw [C_XS' E_internal_stringslite_IndexByte _ _ rfl]
  simp (maxDischargeDepth := 9) only [go_sem, ↓reduceIte, reduceCtorEq, Nat.reduceEqDiff, Int.reduceLE, Int.reduceLT, Int.reduceEq, Int.reduceNeg, Int.reduceAdd, Int.reduceSub, Nat.reduceAdd, Nat.reduceLeDiff, argFr, hok, indexByte_c hc]
theorem sIndexByte_c {s : List Nat} {c : Nat} (hc : c < 256) : C EE K_strings_IndexByte [.str s, .int .u8 (c : Int)] h = some (.int .i64 (idxB c s 0), h) := by
  rw [C_XS' E_strings_IndexByte _ _ rfl]
  simp (maxDischargeDepth := 9) only [go_sem, ↓reduceIte, reduceCtorEq, Nat.reduceEqDiff, Int.reduceLE, Int.reduceLT, Int.reduceEq, Int.reduceNeg, Int.reduceAdd, Int.reduceSub, Nat.reduceAdd, Nat.reduceLeDiff, argFr, hok, slIndexByte_c hok hc, AH.ext_nil]

theorem slHasPrefix_c {s t : List Nat} : C EE K_internal_stringslite_HasPrefix [.str s, .str t] h = some (.bool (hasP s t), h) := by
  rw [C_XS' E_internal_stringslite_HasPrefix _ _ rfl]
  by_cases hl : t.length ≤ s.length
  · have hl' : ((t.length : Int) ≤ s.length) := by omega
    simp (maxDischargeDepth := 9) only [go_sem, ↓reduceIte, reduceCtorEq, Nat.reduceEqDiff, Int.reduceLE, Int.reduceLT, Int.reduceEq, Int.reduceNeg, Int.reduceAdd, Int.reduceSub, Nat.reduceAdd, Nat.reduceLeDiff, argFr, hok, ge_iff_le, hl', decide_true, sliceS_hi hl, strOp, hasP]
  · have hl' : ¬ ((t.length : Int) ≤ s.length) := by omega
    have hp : hasP s t = false := by cases hp : hasP s t with
      | false => rfl
      | true => exact absurd (hasP_len hp) hl
    simp (maxDischargeDepth := 9) only [go_sem, ↓reduceIte, reduceCtorEq, Nat.reduceEqDiff, Int.reduceLE, Int.reduceLT, Int.reduceEq, Int.reduceNeg, Int.reduceAdd, Int.reduceSub, Nat.reduceAdd, Nat.reduceLeDiff, argFr, hok, ge_iff_le, hl', decide_false, hp]
theorem hasPrefix_c {s t : List Nat} : C EE K_strings_HasPrefix [.str s, .str t] h = some (.bool (hasP s t), h) := by
  rw [C_XS' E_strings_HasPrefix _ _ rfl]
  simp (maxDischargeDepth := 9) only [go_sem, ↓reduceIte, reduceCtorEq, Nat.reduceEqDiff, Int.reduceLE, Int.reduceLT, Int.reduceEq, Int.reduceNeg, Int.reduceAdd, Int.reduceSub, Nat.reduceAdd, Nat.reduceLeDiff, argFr, hok, slHasPrefix_c hok, AH.ext_nil]

theorem index1_c {s : List Nat} {c : Nat} (hc : c < 256) : C EE K_internal_stringslite_Index [.str s, .str [c]] h = some (.int .i64 (idxB c s 0), h) := by
  rw [C_XS' E_internal_stringslite_Index _ _ rfl]
  have h10 : ((1 : Int) = 0) = False := by simp
  by_cases hs : [c] = s
  · subst hs
    have hi : idxB c [c] 0 = 0 := by simp [idxB]
    simp (maxDischargeDepth := 9) only [go_sem, ↓reduceIte, reduceCtorEq, Nat.reduceEqDiff, Int.reduceLE, Int.reduceLT, Int.reduceEq, Int.reduceNeg, Int.reduceAdd, Int.reduceSub, Nat.reduceAdd, Nat.reduceLeDiff, argFr, hok, hi, strOp, Int.natCast_one, Int.cast_ofNat_Int, h10, decide_false, decide_true]
  · simp (maxDischargeDepth := 9) only [go_sem, ↓reduceIte, reduceCtorEq, Nat.reduceEqDiff, Int.reduceLE, Int.reduceLT, Int.reduceEq, Int.reduceNeg, Int.reduceAdd, Int.reduceSub, Nat.reduceAdd, Nat.reduceLeDiff, argFr, hok, strOp, Int.natCast_one, Int.cast_ofNat_Int, h10, hs, decide_false, decide_true, Int.toNat_zero, Int.le_refl, slIndexByte_c hok hc, AH.ext_nil]
theorem slCut1_c {s : List Nat} {c : Nat} (hc : c < 256) (hl : s.length ≤ 1000000000) : ∃ a b : List Nat, ∃ f : Bool, C EE K_internal_stringslite_Cut [.str s, .str [c]] h = some (.tup [.str a, .str b, .bool f], h) ∧ a.length ≤ s.length ∧ (s ≠ [] → s[0]? ≠ some c → 0 < a.length) := by
  rw [C_XS' E_internal_stringslite_Cut _ _ rfl]
  rcases idxB_le c s 0 with hi | ⟨j, hi, hj, hg⟩
  · refine ⟨s, [], false, ?_, Nat.le_refl _, fun h _ => List.length_pos_iff.2 h⟩
    have h0 : ¬ ((0 : Int) ≤ -1) := by omega
    simp (maxDischargeDepth := 9) only [go_sem, ↓reduceIte, reduceCtorEq, Nat.reduceEqDiff, Int.reduceLE, Int.reduceLT, Int.reduceEq, Int.reduceNeg, Int.reduceAdd, Int.reduceSub, Nat.reduceAdd, Nat.reduceLeDiff, argFr, hok, index1_c hok hc, AH.ext_nil, hi, ge_iff_le, h0, decide_false]
  · rw [Nat.zero_add] at hi
    have h0 : ((0 : Int) ≤ j) := by omega
    have hw : IntKind.i64.wrap ((j : Int) + 1) = ((j + 1 : Nat) : Int) := by rw [w64s] <;> omega
    refine ⟨s.take j, s.drop (j + 1), true, ?_, by simp; omega, fun h1 h2 => ?_⟩
    · simp (maxDischargeDepth := 9) only [go_sem, ↓reduceIte, reduceCtorEq, Nat.reduceEqDiff, Int.reduceLE, Int.reduceLT, Int.reduceEq, Int.reduceNeg, Int.reduceAdd, Int.reduceSub, Nat.reduceAdd, Nat.reduceLeDiff, argFr, hok, index1_c hok hc, AH.ext_nil, hi, ge_iff_le, h0, decide_true, Int.natCast_one, Int.cast_ofNat_Int, hw, sliceS_hi (Nat.le_of_lt hj), sliceS_lo (show j + 1 ≤ s.length from hj)]
    · have : j ≠ 0 := fun e => by subst e; exact h2 hg
      rw [List.length_take]; omega
theorem cut1_c {s : List Nat} {c : Nat} (hc : c < 256) (hl : s.length ≤ 1000000000) : ∃ a b : List Nat, ∃ f : Bool, C EE K_strings_Cut [.str s, .str [c]] h = some (.tup [.str a, .str b, .bool f], h) ∧ a.length ≤ s.length ∧ (s ≠ [] → s[0]? ≠ some c → 0 < a.length) := by
  obtain ⟨a, b, f, hx, h1, h2⟩ := slCut1_c hok hc hl
  refine ⟨a, b, f, ?_, h1, h2⟩
  rw [C_XS' E_strings_Cut _ _ rfl]
  simp (maxDischargeDepth := 9) only [go_sem, ↓reduceIte, reduceCtorEq, Nat.reduceEqDiff, Int.reduceLE, Int.reduceLT, Int.reduceEq, Int.reduceNeg, Int.reduceAdd, Int.reduceSub, Nat.reduceAdd, Nat.reduceLeDiff, argFr, hok, hx, AH.ext_nil]
end
end Go.Proofs.YtfahpmlckobpmaaGreatDoor.Pi
/-
  The reader of texts (layer 4), 2: kinds, blanks, numbers, labels, signs.
-/
namespace Go.Proofs.YtfahpmlckobpmaaGreatDoor.Pi
open Go

def signsL : List Nat := [45, 60, 62, 33, 61, 46, 91, 93, 40, 41, 58, 59, 44, 43, 42, 38, 124, 63, 39]
def kindOf (c : Nat) : Int :=
  if 97 ≤ (c : Int) ∧ (c : Int) ≤ 122 then 1 else if 65 ≤ (c : Int) ∧ (c : Int) ≤ 90 then 1 else if (c : Int) = 95 then 1
  else if 48 ≤ (c : Int) ∧ (c : Int) ≤ 57 then 2 else if (c : Int) = 34 then 3 else if 0 ≤ idxB c signsL 0 then 4 else -1

section
variable {h : AH} (hok : h.ok)
include hok

theorem kind_c {c : Nat} (hc : c < 256) : C EE K_scan_kind [.int .u8 (c : Int)] h = some (.int .i64 (kindOf c), h) := by
  rw [C_XS' E_scan_kind _ _ rfl]
  have hI := sIndexByte_c (s := signsL) hok hc
  unfold signsL at hI
  unfold kindOf signsL
  by_cases a1 : 97 ≤ (c : Int) <;> by_cases a2 : (c : Int) ≤ 122 <;> by_cases a3 : 65 ≤ (c : Int) <;> by_cases a4 : (c : Int) ≤ 90 <;> try (exfalso; omega)
  all_goals
    by_cases a5 : (c : Int) = 95 <;> try (exfalso; omega)
    all_goals
      by_cases a6 : 48 ≤ (c : Int) <;> by_cases a7 : (c : Int) ≤ 57 <;> try (exfalso; omega)
      all_goals
        by_cases a8 : (c : Int) = 34 <;> try (exfalso; omega)
        all_goals
          by_cases a9 : 0 ≤ idxB c [45, 60, 62, 33, 61, 46, 91, 93, 40, 41, 58, 59, 44, 43, 42, 38, 124, 63, 39] 0
          all_goals simp (maxDischargeDepth := 9) only [go_sem, ↓reduceIte, reduceCtorEq, Nat.reduceEqDiff, Int.reduceLE, Int.reduceLT, Int.reduceEq, Int.reduceNeg, Int.reduceAdd, Int.reduceSub, Nat.reduceAdd, Nat.reduceLeDiff, argFr, hok, ge_iff_le, a1, a2, a3, a4, a5, a6, a7, a8, a9, decide_true, decide_false, AH.ext_nil, hI, and_true, and_false, true_and, false_and]
end
end Go.Proofs.YtfahpmlckobpmaaGreatDoor.Pi
/-
  The reader of texts (layer 4), 3: blanks, numbers, labels, signs.
-/
namespace Go.Proofs.YtfahpmlckobpmaaGreatDoor.Pi
open Go

/-- a text of bytes -/
def bytesL (s : List Nat) : Prop := ∀ c ∈ s, c < 256
theorem bytesL_drop {s : List Nat} (h : bytesL s) (n : Nat) : bytesL (s.drop n) := fun c hc => h c (List.mem_of_mem_drop hc)
theorem bytesL_take {s : List Nat} (h : bytesL s) (n : Nat) : bytesL (s.take n) := fun c hc => h c (List.mem_of_mem_take hc)
theorem bytesL_get {s : List Nat} (h : bytesL s) {n : Nat} (hn : n < s.length) : s[n] < 256 := h _ (List.getElem_mem hn)

section
variable {h : AH} (hok : h.ok)
include hok

theorem blank_loop {s : List Nat} (v1 : AV) (hl : s.length ≤ 1000000) : ∀ (d n : Nat), s.length - n ≤ d → n ≤ s.length →
    ∃ m : Nat, n ≤ m ∧ m ≤ s.length ∧ ∃ fr, LP EE L_scan_blank_0 [0, 1, 5] [(0, .str s), (1, v1), (5, .int .i64 (n : Int))] h = some (.exit 0, fr, h) ∧ fget fr 1 = v1 ∧ fget fr 5 = .int .i64 (m : Int) := by
  intro d
  induction d with
  | zero =>
    intro n hd hn
    have hlt : ¬ ((n : Int) < s.length) := by omega
    exact ⟨n, Nat.le_refl _, hn, lp_mk (by rw [L_scan_blank_0_eq]; simp (maxDischargeDepth := 9) only [go_sem, ↓reduceIte, reduceCtorEq, Nat.reduceEqDiff, Int.reduceLE, Int.reduceLT, Int.reduceEq, Int.reduceNeg, Int.reduceAdd, Int.reduceSub, Nat.reduceAdd, Nat.reduceLeDiff, hlt]; rfl) ⟨rfl, rfl⟩⟩
  | succ d ih =>
    intro n hd hn
    by_cases hlt' : n < s.length
    · have hlt : ((n : Int) < s.length) := by omega
      have h0 : (0 : Int) ≤ n := by omega
      have hw : IntKind.i64.wrap ((n : Int) + 1) = ((n + 1 : Nat) : Int) := by rw [w64s] <;> omega
      obtain ⟨m, m1, m2, fr, m3, f1, f5⟩ := ih (n + 1) (by omega) (by omega)
      have hg := get_some hlt'
      have go : ∀ c : Int, ((s[n] : Nat) : Int) = c → (c = 32 ∨ c = 9 ∨ c = 10 ∨ c = 13) → ∃ m : Nat, n ≤ m ∧ m ≤ s.length ∧ ∃ fr, LP EE L_scan_blank_0 [0, 1, 5] [(0, .str s), (1, v1), (5, .int .i64 (n : Int))] h = some (.exit 0, fr, h) ∧ fget fr 1 = v1 ∧ fget fr 5 = .int .i64 (m : Int) := by
        intro c hc hcc
        refine ⟨m, by omega, m2, fr, ?_, f1, f5⟩
        rw [L_scan_blank_0_eq]
        rcases hcc with rfl | rfl | rfl | rfl
        all_goals simp (maxDischargeDepth := 9) only [go_sem, ↓reduceIte, reduceCtorEq, Nat.reduceEqDiff, Int.reduceLE, Int.reduceLT, Int.reduceEq, Int.reduceNeg, Int.reduceAdd, Int.reduceSub, Nat.reduceAdd, Nat.reduceLeDiff, hlt, h0, Int.toNat_natCast, hg, hc, hw, m3]
      by_cases c1 : ((s[n] : Nat) : Int) = 32
      · exact go _ c1 (by omega)
      by_cases c2 : ((s[n] : Nat) : Int) = 9
      · exact go _ c2 (by omega)
      by_cases c3 : ((s[n] : Nat) : Int) = 10
      · exact go _ c3 (by omega)
      by_cases c4 : ((s[n] : Nat) : Int) = 13
      · exact go _ c4 (by omega)
      cases hp : hasP (s.drop n) [47, 47] with
      | false =>
        exact ⟨n, Nat.le_refl _, hn, lp_mk (by rw [L_scan_blank_0_eq]; simp (maxDischargeDepth := 9) only [go_sem, ↓reduceIte, reduceCtorEq, Nat.reduceEqDiff, Int.reduceLE, Int.reduceLT, Int.reduceEq, Int.reduceNeg, Int.reduceAdd, Int.reduceSub, Nat.reduceAdd, Nat.reduceLeDiff, hlt, h0, Int.toNat_natCast, hg, c1, c2, c3, c4, sliceS_lo hn, hasPrefix_c hok, hp]; rfl) ⟨rfl, rfl⟩⟩
      | true =>
        have hdl : (s.drop n).length ≤ 1000000000 := by simp; omega
        obtain ⟨a, b, f, hx, h1, h2⟩ := cut1_c (s := s.drop n) (c := 10) hok (by omega) hdl
        have hne : s.drop n ≠ [] := by intro e; have := congrArg List.length e; simp at this; omega
        have hpos := h2 hne (by rw [List.getElem?_drop, Nat.add_zero, hg]; intro e; apply c3; simp only [Option.some.injEq] at e; omega)
        simp only [List.length_drop] at h1
        have hw2 : IntKind.i64.wrap ((n : Int) + (a.length : Int)) = ((n + a.length : Nat) : Int) := by rw [w64s] <;> omega
        obtain ⟨m, m1, m2, fr, m3, f1, f5⟩ := ih (n + a.length) (by omega) (by omega)
        refine ⟨m, by omega, m2, fr, ?_, f1, f5⟩
        rw [L_scan_blank_0_eq]
        simp (maxDischargeDepth := 9) only [go_sem, ↓reduceIte, reduceCtorEq, Nat.reduceEqDiff, Int.reduceLE, Int.reduceLT, Int.reduceEq, Int.reduceNeg, Int.reduceAdd, Int.reduceSub, Nat.reduceAdd, Nat.reduceLeDiff, hlt, h0, Int.toNat_natCast, hg, c1, c2, c3, c4, sliceS_lo hn, hasPrefix_c hok, hp, hx, hw2, m3]
    · have hlt : ¬ ((n : Int) < s.length) := by omega
      exact ⟨n, Nat.le_refl _, hn, lp_mk (by rw [L_scan_blank_0_eq]; simp (maxDischargeDepth := 9) only [go_sem, ↓reduceIte, reduceCtorEq, Nat.reduceEqDiff, Int.reduceLE, Int.reduceLT, Int.reduceEq, Int.reduceNeg, Int.reduceAdd, Int.reduceSub, Nat.reduceAdd, Nat.reduceLeDiff, hlt]; rfl) ⟨rfl, rfl⟩⟩

theorem blank_c {s : List Nat} {n : Nat} (hl : s.length ≤ 1000000) (hn : n ≤ s.length) : ∃ k : Nat, n + k ≤ s.length ∧ C EE K_scan_blank [.str s, .int .i64 (n : Int)] h = some (.int .i64 (k : Int), h) := by
  obtain ⟨m, m1, m2, fr, m3, f1, f5⟩ := blank_loop hok (.int .i64 (n : Int)) hl s.length n (by omega) hn
  have hw : IntKind.i64.wrap ((m : Int) - (n : Int)) = ((m - n : Nat) : Int) := by rw [w64s] <;> omega
  refine ⟨m - n, by omega, ?_⟩
  rw [C_XS' E_scan_blank _ _ rfl]
  simp (maxDischargeDepth := 9) only [go_sem, ↓reduceIte, reduceCtorEq, Nat.reduceEqDiff, Int.reduceLE, Int.reduceLT, Int.reduceEq, Int.reduceNeg, Int.reduceAdd, Int.reduceSub, Nat.reduceAdd, Nat.reduceLeDiff, argFr, hok, AH.ext_nil, m3, f1, f5, hw]

/-- may it go on? -/
theorem one1_c {k : Int} : C EE K_scan_one_1 [.int .i64 k] h = some (.bool (decide (k = 1 ∨ k = 2)), h) := by
  rw [C_XS' E_scan_one_1 _ _ rfl]
  by_cases h1 : k = 1
  · simp (maxDischargeDepth := 9) only [go_sem, ↓reduceIte, reduceCtorEq, Nat.reduceEqDiff, Int.reduceLE, Int.reduceLT, Int.reduceEq, Int.reduceNeg, Int.reduceAdd, Int.reduceSub, Nat.reduceAdd, Nat.reduceLeDiff, argFr, hok, AH.ext_nil, h1, true_or]
  · simp (maxDischargeDepth := 9) only [go_sem, ↓reduceIte, reduceCtorEq, Nat.reduceEqDiff, Int.reduceLE, Int.reduceLT, Int.reduceEq, Int.reduceNeg, Int.reduceAdd, Int.reduceSub, Nat.reduceAdd, Nat.reduceLeDiff, argFr, hok, AH.ext_nil, h1, false_or]
theorem one2_c {k : Int} : C EE K_scan_one_2 [.int .i64 k] h = some (.bool (decide (k = 2)), h) := by
  rw [C_XS' E_scan_one_2 _ _ rfl]
  simp (maxDischargeDepth := 9) only [go_sem, ↓reduceIte, reduceCtorEq, Nat.reduceEqDiff, Int.reduceLE, Int.reduceLT, Int.reduceEq, Int.reduceNeg, Int.reduceAdd, Int.reduceSub, Nat.reduceAdd, Nat.reduceLeDiff, argFr, hok, AH.ext_nil]

theorem run_loop {s : List Nat} (hb : bytesL s) {K : Nat} {p : Int → Bool} (hp : ∀ k : Int, C EE K [.int .i64 k] h = some (.bool (p k), h)) {a : Nat} (hl : s.length ≤ 1000000) : ∀ (d n : Nat), s.length - (a + n) ≤ d → a + n ≤ s.length →
    ∃ m : Nat, n ≤ m ∧ a + m ≤ s.length ∧ (∀ c, s[a + n]? = some c → p (kindOf c) = true → n < m) ∧ ∃ fr, LP EE L_scan_run_0 [0, 1, 2, 7] [(0, .str s), (1, .int .i64 (a : Int)), (2, .fn K [] []), (7, .int .i64 (n : Int))] h = some (.exit 0, fr, h) ∧ fget fr 7 = .int .i64 (m : Int) := by
  intro d
  induction d with
  | zero =>
    intro n hd hn
    refine ⟨n, Nat.le_refl _, hn, fun c hc => by have := (List.getElem?_eq_some_iff.1 hc).1; omega, ?_⟩
    have hw : IntKind.i64.wrap ((a : Int) + n) = ((a + n : Nat) : Int) := by rw [w64s] <;> omega
    have hlt : ¬ (((a + n : Nat) : Int) < s.length) := by omega
    exact lp_mk (by rw [L_scan_run_0_eq]; simp (maxDischargeDepth := 9) only [go_sem, ↓reduceIte, reduceCtorEq, Nat.reduceEqDiff, Int.reduceLE, Int.reduceLT, Int.reduceEq, Int.reduceNeg, Int.reduceAdd, Int.reduceSub, Nat.reduceAdd, Nat.reduceLeDiff, hw, hlt]; rfl) rfl
  | succ d ih =>
    intro n hd hn
    have hw : IntKind.i64.wrap ((a : Int) + n) = ((a + n : Nat) : Int) := by rw [w64s] <;> omega
    by_cases hlt' : a + n < s.length
    · have hlt : (((a + n : Nat) : Int) < s.length) := by omega
      have h0 : (0 : Int) ≤ ((a + n : Nat) : Int) := by omega
      have hg := get_some hlt'
      have hc := bytesL_get hb hlt'
      cases hpk : p (kindOf s[a + n]) with
      | false =>
        refine ⟨n, Nat.le_refl _, hn, fun c hc hpc => (by rw [hg] at hc; simp only [Option.some.injEq] at hc; subst hc; rw [hpk] at hpc; cases hpc), ?_⟩
        exact lp_mk (by rw [L_scan_run_0_eq]; simp (maxDischargeDepth := 9) only [go_sem, ↓reduceIte, reduceCtorEq, Nat.reduceEqDiff, Int.reduceLE, Int.reduceLT, Int.reduceEq, Int.reduceNeg, Int.reduceAdd, Int.reduceSub, Nat.reduceAdd, Nat.reduceLeDiff, hw, hlt, h0, Int.toNat_natCast, hg, kind_c hok hc, hp, hpk]; rfl) rfl
      | true =>
        have hw2 : IntKind.i64.wrap ((n : Int) + 1) = ((n + 1 : Nat) : Int) := by rw [w64s] <;> omega
        obtain ⟨m, m1, m2, _, fr, m3, f7⟩ := ih (n + 1) (by omega) (by omega)
        refine ⟨m, by omega, m2, fun _ _ _ => by omega, fr, ?_, f7⟩
        rw [L_scan_run_0_eq]
        simp (maxDischargeDepth := 9) only [go_sem, ↓reduceIte, reduceCtorEq, Nat.reduceEqDiff, Int.reduceLE, Int.reduceLT, Int.reduceEq, Int.reduceNeg, Int.reduceAdd, Int.reduceSub, Nat.reduceAdd, Nat.reduceLeDiff, hw, hlt, h0, Int.toNat_natCast, hg, kind_c hok hc, hp, hpk, hw2, m3]
    · refine ⟨n, Nat.le_refl _, hn, fun c hc => by have := (List.getElem?_eq_some_iff.1 hc).1; omega, ?_⟩
      have hlt : ¬ (((a + n : Nat) : Int) < s.length) := by omega
      exact lp_mk (by rw [L_scan_run_0_eq]; simp (maxDischargeDepth := 9) only [go_sem, ↓reduceIte, reduceCtorEq, Nat.reduceEqDiff, Int.reduceLE, Int.reduceLT, Int.reduceEq, Int.reduceNeg, Int.reduceAdd, Int.reduceSub, Nat.reduceAdd, Nat.reduceLeDiff, hw, hlt]; rfl) rfl

theorem run_c {s : List Nat} (hb : bytesL s) {K : Nat} {p : Int → Bool} (hp : ∀ k : Int, C EE K [.int .i64 k] h = some (.bool (p k), h)) {a : Nat} (hl : s.length ≤ 1000000) (ha : a < s.length) :
    ∃ m : Nat, a + m ≤ s.length ∧ (p (kindOf s[a]) = true → 0 < m) ∧ C EE K_scan_run [.str s, .int .i64 (a : Int), .fn K [] []] h = some (.int .i64 (m : Int), h) := by
  obtain ⟨m, m1, m2, m4, fr, m3, f7⟩ := run_loop hok hb hp (a := a) hl s.length 0 (by omega) (by omega)
  refine ⟨m, m2, m4 _ (get_some ha), ?_⟩
  simp only [Int.natCast_zero, Int.ofNat_zero] at m3
  rw [C_XS' E_scan_run _ _ rfl]
  simp (maxDischargeDepth := 9) only [go_sem, ↓reduceIte, reduceCtorEq, Nat.reduceEqDiff, Int.reduceLE, Int.reduceLT, Int.reduceEq, Int.reduceNeg, Int.reduceAdd, Int.reduceSub, Nat.reduceAdd, Nat.reduceLeDiff, argFr, hok, AH.ext_nil, m3, f7]
end
end Go.Proofs.YtfahpmlckobpmaaGreatDoor.Pi
