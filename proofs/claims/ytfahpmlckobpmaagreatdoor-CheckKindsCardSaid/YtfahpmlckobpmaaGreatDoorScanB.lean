/-
  The reader of texts (layer 4), 4: numbers, labels, signs, one token.
-/
import Derived.Test.YtfahpmlckobpmaaGreatDoorScanA
set_option linter.unusedSimpArgs false
set_option linter.unusedVariables false
set_option linter.unusedSectionVars false
namespace Go.Proofs.YtfahpmlckobpmaaGreatDoor.Pi
open Go

/-- errors: a number; a number at a place -/
def noE (n : Int) : AV := .iface T_api_Errno (.int .i64 n)
def atE (pos n : Int) : AV := .iface T_P_api_At (.ref [.int .i64 pos, .iface T_api_Errno (.int .i64 n)])

def marks : List AV := [.str [45, 62], .str [60, 61], .str [62, 61], .str [33, 61], .str [61, 62], .str [46, 46]]
theorem marks_get {i : Nat} (hi : i < 6) : ∃ a b : Nat, (marks.drop (i * 1)).head? = some (.str [a, b]) := by
  match i, hi with
  | 0, _ | 1, _ | 2, _ | 3, _ | 4, _ | 5, _ => exact ⟨_, _, rfl⟩

section
variable {h : AH} (hok : h.ok)
include hok

theorem scanWrong_c {pos n : Int} : C EE K_scan_wrong [.int .i64 pos, .iface T_api_Errno (.int .i64 n)] h = some (atE pos n, h) := by
  rw [C_XS' E_scan_wrong _ _ rfl]
  simp (maxDischargeDepth := 9) only [go_sem, ↓reduceIte, reduceCtorEq, Nat.reduceEqDiff, Int.reduceLE, Int.reduceLT, Int.reduceEq, Int.reduceNeg, Int.reduceAdd, Int.reduceSub, Nat.reduceAdd, Nat.reduceLeDiff, argFr, hok, atE]

theorem digits_loop {s : List Nat} (hl : s.length ≤ 1000000) : ∀ (d i : Nat) (n : Int), s.length - i ≤ d → i ≤ s.length → I64 n →
    ∃ e fr, LP EE L_scan_digits_0 [0, 4, 8, 9] [(0, .str s), (4, .int .i64 n), (8, .int .i64 (s.length : Int)), (9, .int .i64 (i : Int))] h = some (e, fr, h) ∧
      ((e = .exit 0 ∧ ∃ m, I64 m ∧ fget fr 4 = .int .i64 m) ∨ (e = .ret ∧ fget fr 2 = .int .i64 0 ∧ fget fr 3 = .bool false)) := by
  intro d
  induction d with
  | zero =>
    intro i n hd hi hn
    have hlt : ¬ ((i : Int) < s.length) := by omega
    exact ⟨_, lp_mk (by rw [L_scan_digits_0_eq]; simp (maxDischargeDepth := 9) only [go_sem, ↓reduceIte, reduceCtorEq, Nat.reduceEqDiff, Int.reduceLE, Int.reduceLT, Int.reduceEq, Int.reduceNeg, Int.reduceAdd, Int.reduceSub, Nat.reduceAdd, Nat.reduceLeDiff, hlt]; rfl) (.inl ⟨rfl, n, hn, rfl⟩)⟩
  | succ d ih =>
    intro i n hd hi hn
    by_cases hlt' : i < s.length
    · have hlt : ((i : Int) < s.length) := by omega
      have h0 : (0 : Int) ≤ i := by omega
      have hg := get_some hlt'
      have hw : IntKind.i64.wrap ((i : Int) + 1) = ((i + 1 : Nat) : Int) := by rw [w64s] <;> omega
      have h10 : ((10 : Int) = 0) = False := by simp
      by_cases hc : n > IntKind.i64.wrap ((IntKind.i64.wrap (9223372036854775807 - IntKind.i64.wrap (IntKind.u8.wrap ((s[i] : Nat) - 48 : Int)))).tdiv 10)
      · exact ⟨_, lp_mk (by rw [L_scan_digits_0_eq]; simp (maxDischargeDepth := 9) only [go_sem, ↓reduceIte, reduceCtorEq, Nat.reduceEqDiff, Int.reduceLE, Int.reduceLT, Int.reduceEq, Int.reduceNeg, Int.reduceAdd, Int.reduceSub, Nat.reduceAdd, Nat.reduceLeDiff, hlt, h0, Int.toNat_natCast, hg, h10, hc]; rfl) (.inr ⟨rfl, rfl, rfl⟩)⟩
      · obtain ⟨e, fr, h1, h2⟩ := ih (i + 1) (IntKind.i64.wrap (IntKind.i64.wrap (10 * n) + IntKind.i64.wrap (IntKind.u8.wrap ((s[i] : Nat) - 48 : Int)))) (by omega) (by omega) (w64_lo _)
        refine ⟨e, fr, ?_, h2⟩
        rw [L_scan_digits_0_eq]
        simp (maxDischargeDepth := 9) only [go_sem, ↓reduceIte, reduceCtorEq, Nat.reduceEqDiff, Int.reduceLE, Int.reduceLT, Int.reduceEq, Int.reduceNeg, Int.reduceAdd, Int.reduceSub, Nat.reduceAdd, Nat.reduceLeDiff, hlt, h0, Int.toNat_natCast, hg, h10, hc, hw, h1]
    · have hlt : ¬ ((i : Int) < s.length) := by omega
      exact ⟨_, lp_mk (by rw [L_scan_digits_0_eq]; simp (maxDischargeDepth := 9) only [go_sem, ↓reduceIte, reduceCtorEq, Nat.reduceEqDiff, Int.reduceLE, Int.reduceLT, Int.reduceEq, Int.reduceNeg, Int.reduceAdd, Int.reduceSub, Nat.reduceAdd, Nat.reduceLeDiff, hlt]; rfl) (.inl ⟨rfl, n, hn, rfl⟩)⟩

theorem digits_c {s : List Nat} (hl : s.length ≤ 1000000) : ∃ (n : Int) (b : Bool), I64 n ∧ C EE K_scan_digits [.str s] h = some (.tup [.int .i64 n, .bool b], h) := by
  obtain ⟨e, fr, h1, h2⟩ := digits_loop hok hl s.length 0 0 (by omega) (by omega) (by unfold I64; omega)
  simp only [Int.natCast_zero, Int.ofNat_zero] at h1
  rcases h2 with ⟨rfl, m, hm, f4⟩ | ⟨rfl, f2, f3⟩
  · refine ⟨m, true, hm, ?_⟩
    rw [C_XS' E_scan_digits _ _ rfl]
    simp (maxDischargeDepth := 9) only [go_sem, ↓reduceIte, reduceCtorEq, Nat.reduceEqDiff, Int.reduceLE, Int.reduceLT, Int.reduceEq, Int.reduceNeg, Int.reduceAdd, Int.reduceSub, Nat.reduceAdd, Nat.reduceLeDiff, argFr, hok, AH.ext_nil, h1, f4]
  · refine ⟨0, false, by unfold I64; omega, ?_⟩
    rw [C_XS' E_scan_digits _ _ rfl]
    simp (maxDischargeDepth := 9) only [go_sem, ↓reduceIte, reduceCtorEq, Nat.reduceEqDiff, Int.reduceLE, Int.reduceLT, Int.reduceEq, Int.reduceNeg, Int.reduceAdd, Int.reduceSub, Nat.reduceAdd, Nat.reduceLeDiff, argFr, hok, AH.ext_nil, h1, f2, f3]

theorem quoted_loop {s : List Nat} {n : Nat} (hn : n < s.length) (hl : s.length ≤ 1000000) : ∀ (d i : Nat), n + 1 - i ≤ d → i ≤ n + 1 →
    ∃ e fr, LP EE L_scan_quoted_0 [0, 3, 4] [(0, .str s), (3, .int .i64 (n : Int)), (4, .int .i64 (i : Int))] h = some (e, fr, h) ∧
      ((e = .exit 0 ∧ fget fr 3 = .int .i64 (n : Int)) ∨ (e = .ret ∧ fget fr 2 = .int .i64 0)) := by
  intro d
  induction d with
  | zero =>
    intro i hd hi
    have hlt : ¬ ((i : Int) ≤ n) := by omega
    exact ⟨_, lp_mk (by rw [L_scan_quoted_0_eq]; simp (maxDischargeDepth := 9) only [go_sem, ↓reduceIte, reduceCtorEq, Nat.reduceEqDiff, Int.reduceLE, Int.reduceLT, Int.reduceEq, Int.reduceNeg, Int.reduceAdd, Int.reduceSub, Nat.reduceAdd, Nat.reduceLeDiff, hlt]; rfl) (.inl ⟨rfl, rfl⟩)⟩
  | succ d ih =>
    intro i hd hi
    by_cases hlt' : i ≤ n
    · have hlt : ((i : Int) ≤ n) := by omega
      have h0 : (0 : Int) ≤ i := by omega
      have hg := get_some (show i < s.length by omega)
      have hw : IntKind.i64.wrap ((i : Int) + 1) = ((i + 1 : Nat) : Int) := by rw [w64s] <;> omega
      by_cases c1 : ((s[i] : Nat) : Int) < 32
      · exact ⟨_, lp_mk (by rw [L_scan_quoted_0_eq]; simp (maxDischargeDepth := 9) only [go_sem, ↓reduceIte, reduceCtorEq, Nat.reduceEqDiff, Int.reduceLE, Int.reduceLT, Int.reduceEq, Int.reduceNeg, Int.reduceAdd, Int.reduceSub, Nat.reduceAdd, Nat.reduceLeDiff, hlt, h0, Int.toNat_natCast, hg, c1]; rfl) (.inr ⟨rfl, rfl⟩)⟩
      · by_cases c2 : ((s[i] : Nat) : Int) > 126
        · exact ⟨_, lp_mk (by rw [L_scan_quoted_0_eq]; simp (maxDischargeDepth := 9) only [go_sem, ↓reduceIte, reduceCtorEq, Nat.reduceEqDiff, Int.reduceLE, Int.reduceLT, Int.reduceEq, Int.reduceNeg, Int.reduceAdd, Int.reduceSub, Nat.reduceAdd, Nat.reduceLeDiff, hlt, h0, Int.toNat_natCast, hg, c1, c2]; rfl) (.inr ⟨rfl, rfl⟩)⟩
        · obtain ⟨e, fr, h1, h2⟩ := ih (i + 1) (by omega) (by omega)
          refine ⟨e, fr, ?_, h2⟩
          rw [L_scan_quoted_0_eq]
          simp (maxDischargeDepth := 9) only [go_sem, ↓reduceIte, reduceCtorEq, Nat.reduceEqDiff, Int.reduceLE, Int.reduceLT, Int.reduceEq, Int.reduceNeg, Int.reduceAdd, Int.reduceSub, Nat.reduceAdd, Nat.reduceLeDiff, hlt, h0, Int.toNat_natCast, hg, c1, c2, hw, h1]
    · have hlt : ¬ ((i : Int) ≤ n) := by omega
      exact ⟨_, lp_mk (by rw [L_scan_quoted_0_eq]; simp (maxDischargeDepth := 9) only [go_sem, ↓reduceIte, reduceCtorEq, Nat.reduceEqDiff, Int.reduceLE, Int.reduceLT, Int.reduceEq, Int.reduceNeg, Int.reduceAdd, Int.reduceSub, Nat.reduceAdd, Nat.reduceLeDiff, hlt]; rfl) (.inl ⟨rfl, rfl⟩)⟩

theorem quoted_c {s : List Nat} (hs : 0 < s.length) (hl : s.length ≤ 1000000) : ∃ k : Nat, k ≤ s.length ∧ (k = 0 ∨ 2 ≤ k) ∧ C EE K_scan_quoted [.str s] h = some (.int .i64 (k : Int), h) := by
  have hsl : sliceS (.str s) (some (.int .i64 1)) none = some (.str (s.drop 1)) := sliceS_lo (n := 1) (by omega)
  have hq : (34 : Int) = ((34 : Nat) : Int) := rfl
  have hI := sIndexByte_c (s := s.drop 1) (c := 34) hok (by omega)
  rw [← hq] at hI
  rcases idxB_le 34 (s.drop 1) 0 with hi | ⟨j, hi, hj, _⟩
  · refine ⟨0, by omega, .inl rfl, ?_⟩
    rw [C_XS' E_scan_quoted _ _ rfl]
    simp (maxDischargeDepth := 9) only [go_sem, ↓reduceIte, reduceCtorEq, Nat.reduceEqDiff, Int.reduceLE, Int.reduceLT, Int.reduceEq, Int.reduceNeg, Int.reduceAdd, Int.reduceSub, Nat.reduceAdd, Nat.reduceLeDiff, argFr, hok, AH.ext_nil, hsl, hI, hi, Int.natCast_zero, Int.ofNat_zero]
  · rw [Nat.zero_add] at hi
    simp only [List.length_drop] at hj
    by_cases c1 : (j : Int) < 1
    · refine ⟨0, by omega, .inl rfl, ?_⟩
      rw [C_XS' E_scan_quoted _ _ rfl]
      simp (maxDischargeDepth := 9) only [go_sem, ↓reduceIte, reduceCtorEq, Nat.reduceEqDiff, Int.reduceLE, Int.reduceLT, Int.reduceEq, Int.reduceNeg, Int.reduceAdd, Int.reduceSub, Nat.reduceAdd, Nat.reduceLeDiff, argFr, hok, AH.ext_nil, hsl, hI, hi, c1, Int.natCast_zero, Int.ofNat_zero]
    · by_cases c2 : (j : Int) > 32
      · refine ⟨0, by omega, .inl rfl, ?_⟩
        rw [C_XS' E_scan_quoted _ _ rfl]
        simp (maxDischargeDepth := 9) only [go_sem, ↓reduceIte, reduceCtorEq, Nat.reduceEqDiff, Int.reduceLE, Int.reduceLT, Int.reduceEq, Int.reduceNeg, Int.reduceAdd, Int.reduceSub, Nat.reduceAdd, Nat.reduceLeDiff, argFr, hok, AH.ext_nil, hsl, hI, hi, c1, c2, Int.natCast_zero, Int.ofNat_zero]
      · obtain ⟨e, fr, h1, h2⟩ := quoted_loop hok (s := s) (n := j) (by omega) hl (j + 1) 1 (by omega) (by omega)
        simp only [Int.natCast_one, Int.cast_ofNat_Int] at h1
        rcases h2 with ⟨rfl, f3⟩ | ⟨rfl, f2⟩
        · have hw : IntKind.i64.wrap ((j : Int) + 2) = ((j + 2 : Nat) : Int) := by rw [w64s] <;> omega
          refine ⟨j + 2, by omega, .inr (by omega), ?_⟩
          rw [C_XS' E_scan_quoted _ _ rfl]
          simp (maxDischargeDepth := 9) only [go_sem, ↓reduceIte, reduceCtorEq, Nat.reduceEqDiff, Int.reduceLE, Int.reduceLT, Int.reduceEq, Int.reduceNeg, Int.reduceAdd, Int.reduceSub, Nat.reduceAdd, Nat.reduceLeDiff, argFr, hok, AH.ext_nil, hsl, hI, hi, c1, c2, h1, f3, hw]
        · refine ⟨0, by omega, .inl rfl, ?_⟩
          rw [C_XS' E_scan_quoted _ _ rfl]
          simp (maxDischargeDepth := 9) only [go_sem, ↓reduceIte, reduceCtorEq, Nat.reduceEqDiff, Int.reduceLE, Int.reduceLT, Int.reduceEq, Int.reduceNeg, Int.reduceAdd, Int.reduceSub, Nat.reduceAdd, Nat.reduceLeDiff, argFr, hok, AH.ext_nil, hsl, hI, hi, c1, c2, h1, f2, Int.natCast_zero, Int.ofNat_zero]

theorem mark_loop {s : List Nat} : ∀ (d i : Nat), 6 - i ≤ d → i ≤ 6 →
    ∃ e fr, LP EE L_scan_mark_0 [0, 5, 6] [(0, .str s), (5, .agg marks), (6, .int .i64 (i : Int))] h = some (e, fr, h) ∧
      ((e = .exit 0 ∧ fget fr 0 = .str s) ∨ (e = .ret ∧ fget fr 2 = .int .i64 2 ∧ 2 ≤ s.length)) := by
  intro d
  induction d with
  | zero =>
    intro i hd hi
    have hlt : ¬ ((i : Int) < 6) := by omega
    exact ⟨_, lp_mk (by rw [L_scan_mark_0_eq]; simp (maxDischargeDepth := 9) only [go_sem, ↓reduceIte, reduceCtorEq, Nat.reduceEqDiff, Int.reduceLE, Int.reduceLT, Int.reduceEq, Int.reduceNeg, Int.reduceAdd, Int.reduceSub, Nat.reduceAdd, Nat.reduceLeDiff, hlt]; rfl) (.inl ⟨rfl, rfl⟩)⟩
  | succ d ih =>
    intro i hd hi
    by_cases hlt' : i < 6
    · have hlt : ((i : Int) < 6) := by omega
      have h0 : (0 : Int) ≤ i := by omega
      obtain ⟨a, b, hm⟩ := marks_get hlt'
      have hw : IntKind.i64.wrap ((i : Int) + 1) = ((i + 1 : Nat) : Int) := by rw [w64s] <;> omega
      have h6 : ((6 : Nat) : Int) = 6 := rfl
      have h2c : ((2 : Nat) : Int) = 2 := rfl
      cases hp : hasP s [a, b] with
      | true => exact ⟨_, lp_mk (by rw [L_scan_mark_0_eq]; simp (maxDischargeDepth := 9) only [go_sem, ↓reduceIte, reduceCtorEq, Nat.reduceEqDiff, Int.reduceLE, Int.reduceLT, Int.reduceEq, Int.reduceNeg, Int.reduceAdd, Int.reduceSub, Nat.reduceAdd, Nat.reduceLeDiff, hlt, h0, h6, Int.toNat_natCast, hm, hasPrefix_c hok, hp, h2c]; rfl) (.inr ⟨rfl, rfl, hasP_len hp⟩)⟩
      | false =>
        obtain ⟨e, fr, h1, h2⟩ := ih (i + 1) (by omega) (by omega)
        refine ⟨e, fr, ?_, h2⟩
        rw [L_scan_mark_0_eq]
        simp (maxDischargeDepth := 9) only [go_sem, ↓reduceIte, reduceCtorEq, Nat.reduceEqDiff, Int.reduceLE, Int.reduceLT, Int.reduceEq, Int.reduceNeg, Int.reduceAdd, Int.reduceSub, Nat.reduceAdd, Nat.reduceLeDiff, hlt, h0, h6, Int.toNat_natCast, hm, hasPrefix_c hok, hp, hw, h1]
    · have hlt : ¬ ((i : Int) < 6) := by omega
      exact ⟨_, lp_mk (by rw [L_scan_mark_0_eq]; simp (maxDischargeDepth := 9) only [go_sem, ↓reduceIte, reduceCtorEq, Nat.reduceEqDiff, Int.reduceLE, Int.reduceLT, Int.reduceEq, Int.reduceNeg, Int.reduceAdd, Int.reduceSub, Nat.reduceAdd, Nat.reduceLeDiff, hlt]; rfl) (.inl ⟨rfl, rfl⟩)⟩

theorem mark_c {s : List Nat} (hs : 0 < s.length) : ∃ k : Nat, k ≤ s.length ∧ C EE K_scan_mark [.str s] h = some (.int .i64 (k : Int), h) := by
  obtain ⟨e, fr, h1, h2⟩ := mark_loop hok (s := s) 6 0 (by omega) (by omega)
  simp only [Int.natCast_zero, Int.ofNat_zero] at h1
  unfold marks at h1
  have hg := get_some hs
  have h00 : (0 : Int) ≤ 0 := Int.le_refl 0
  rcases h2 with ⟨rfl, f0⟩ | ⟨rfl, f2, hl⟩
  · by_cases c1 : ((s[0] : Nat) : Int) = 46
    · refine ⟨0, by omega, ?_⟩
      rw [C_XS' E_scan_mark _ _ rfl]
      simp (maxDischargeDepth := 9) only [go_sem, ↓reduceIte, reduceCtorEq, Nat.reduceEqDiff, Int.reduceLE, Int.reduceLT, Int.reduceEq, Int.reduceNeg, Int.reduceAdd, Int.reduceSub, Nat.reduceAdd, Nat.reduceLeDiff, argFr, hok, AH.ext_nil, h1, f0, Int.toNat_zero, hg, c1, Int.natCast_zero, Int.ofNat_zero]
    · refine ⟨1, by omega, ?_⟩
      rw [C_XS' E_scan_mark _ _ rfl]
      simp (maxDischargeDepth := 9) only [go_sem, ↓reduceIte, reduceCtorEq, Nat.reduceEqDiff, Int.reduceLE, Int.reduceLT, Int.reduceEq, Int.reduceNeg, Int.reduceAdd, Int.reduceSub, Nat.reduceAdd, Nat.reduceLeDiff, argFr, hok, AH.ext_nil, h1, f0, Int.toNat_zero, hg, c1, Int.natCast_one, Int.cast_ofNat_Int]
  · refine ⟨2, hl, ?_⟩
    rw [C_XS' E_scan_mark _ _ rfl]
    simp (maxDischargeDepth := 9) only [go_sem, ↓reduceIte, reduceCtorEq, Nat.reduceEqDiff, Int.reduceLE, Int.reduceLT, Int.reduceEq, Int.reduceNeg, Int.reduceAdd, Int.reduceSub, Nat.reduceAdd, Nat.reduceLeDiff, argFr, hok, AH.ext_nil, h1, f2]
    rfl
end
end Go.Proofs.YtfahpmlckobpmaaGreatDoor.Pi
/-
  The reader of texts (layer 4), 5: tokens; the reader.
-/
namespace Go.Proofs.YtfahpmlckobpmaaGreatDoor.Pi
open Go

theorem kindOf_cases (c : Nat) : kindOf c = 1 ∨ kindOf c = 2 ∨ kindOf c = 3 ∨ kindOf c = 4 ∨ kindOf c = -1 := by
  unfold kindOf; repeat' split
  all_goals simp

/-- what a token's reading tells: a token, or an error at a place -/
def OneP (s : List Nat) (a : Nat) (h : AH) (v : AV) (h' : AH) : Prop :=
  h' = h ∧ ((∃ (k : Int) (t : List Nat) (n : Nat), v = .tup [.agg [.int .i64 k, .str t, .int .i64 (a : Int)], .int .i64 (n : Int), .nili] ∧ k ≠ 0 ∧ 1 ≤ n ∧ a + n ≤ s.length ∧ t.length ≤ s.length) ∨
    (∃ p n : Int, v = .tup [.agg [.int .i64 0, .str [], .int .i64 0], .int .i64 0, atE p n]))

section
variable {h : AH} (hok : h.ok)
include hok

theorem one_c {s : List Nat} (hb : bytesL s) (hl : s.length ≤ 1000000) {a : Nat} (ha : a < s.length) : Rt EE K_scan_one [.str s, .int .i64 (a : Int)] h (OneP s a h) := by
  refine Rt_fn E_scan_one rfl ?_
  generalize hN : h.len = N
  have hg := get_some ha
  have h0 : (0 : Int) ≤ a := by omega
  have hkc := kind_c (h := h.ext [some (ABlk.rows 3 [[AV.int IntKind.i64 0, AV.str [], AV.int IntKind.i64 0]])] []) (AH.ok_ext0 hok) (bytesL_get hb ha)
  have hdl : (s.drop a).length ≤ 1000000 := by simp; omega
  have hdp : 0 < (s.drop a).length := by simp; omega
  have bad : ∀ n : Nat, n = 0 → ((n : Int) = 0) = True := by intro n hn; simp [hn]
  rcases kindOf_cases s[a] with hk | hk | hk | hk | hk
  · obtain ⟨m, m1, m2, hr⟩ := run_c (h := h.ext [some (ABlk.rows 3 [[AV.int IntKind.i64 0, AV.str [], AV.int IntKind.i64 0]]), some (ABlk.rows 3 [[AV.int IntKind.i64 1, AV.str [], AV.int IntKind.i64 (a : Int)]])] []) (AH.ok_ext0 hok) hb (fun k => one1_c (AH.ok_ext0 hok)) hl ha
    have hm : 0 < m := m2 (by rw [hk]; rfl)
    have hw : IntKind.i64.wrap ((a : Int) + m) = ((a + m : Nat) : Int) := by rw [w64s] <;> omega
    have hm0 : ((m : Int) = 0) = False := by simp; omega
    refine ⟨_, by simp (maxDischargeDepth := 9) only [go_sem, ↓reduceIte, reduceCtorEq, Nat.reduceEqDiff, Int.reduceLE, Int.reduceLT, Int.reduceEq, Int.reduceNeg, Int.reduceAdd, Int.reduceSub, Nat.reduceAdd, Nat.reduceLeDiff, argFr, hN, hok, h0, Int.toNat_natCast, hg, hkc, hk, hr, hw, hm0, sliceS_lohi (Nat.le_add_right a m) m1]; rfl, rfl, .inl ⟨_, _, m, rfl, by omega, hm, m1, by simp; omega⟩⟩
  · obtain ⟨m, m1, m2, hr⟩ := run_c (h := h.ext [some (ABlk.rows 3 [[AV.int IntKind.i64 0, AV.str [], AV.int IntKind.i64 0]]), some (ABlk.rows 3 [[AV.int IntKind.i64 2, AV.str [], AV.int IntKind.i64 (a : Int)]])] []) (AH.ok_ext0 hok) hb (fun k => one2_c (AH.ok_ext0 hok)) hl ha
    have hm : 0 < m := m2 (by rw [hk]; rfl)
    have hw : IntKind.i64.wrap ((a : Int) + m) = ((a + m : Nat) : Int) := by rw [w64s] <;> omega
    have hm0 : ((m : Int) = 0) = False := by simp; omega
    obtain ⟨n, b, _, hd⟩ := digits_c (h := h.ext [some (ABlk.rows 3 [[AV.int IntKind.i64 0, AV.str [], AV.int IntKind.i64 0]]), some (ABlk.rows 3 [[AV.int IntKind.i64 2, AV.str [], AV.int IntKind.i64 (a : Int)]])] []) (AH.ok_ext0 hok) (s := (s.drop a).take (a + m - a)) (by simp; omega)
    cases b with
    | true =>
      refine ⟨_, by simp (maxDischargeDepth := 9) only [go_sem, ↓reduceIte, reduceCtorEq, Nat.reduceEqDiff, Int.reduceLE, Int.reduceLT, Int.reduceEq, Int.reduceNeg, Int.reduceAdd, Int.reduceSub, Nat.reduceAdd, Nat.reduceLeDiff, argFr, hN, hok, h0, Int.toNat_natCast, hg, hkc, hk, hr, hw, hm0, sliceS_lohi (Nat.le_add_right a m) m1, hd]; rfl, rfl, .inl ⟨_, _, m, rfl, by omega, hm, m1, by simp; omega⟩⟩
    | false =>
      refine ⟨_, by simp (maxDischargeDepth := 9) only [go_sem, ↓reduceIte, reduceCtorEq, Nat.reduceEqDiff, Int.reduceLE, Int.reduceLT, Int.reduceEq, Int.reduceNeg, Int.reduceAdd, Int.reduceSub, Nat.reduceAdd, Nat.reduceLeDiff, argFr, hN, hok, h0, Int.toNat_natCast, hg, hkc, hk, hr, hw, hm0, sliceS_lohi (Nat.le_add_right a m) m1, hd, scanWrong_c, atE]; rfl, rfl, .inr ⟨_, _, rfl⟩⟩
  · obtain ⟨m, m1, m2, hr⟩ := quoted_c (h := h.ext [some (ABlk.rows 3 [[AV.int IntKind.i64 0, AV.str [], AV.int IntKind.i64 0]]), some (ABlk.rows 3 [[AV.int IntKind.i64 3, AV.str [], AV.int IntKind.i64 (a : Int)]])] []) (AH.ok_ext0 hok) hdp hdl
    simp only [List.length_drop] at m1
    have hsl := sliceS_lo (s := s) (Nat.le_of_lt ha)
    rcases m2 with rfl | m2
    · simp only [Int.natCast_zero, Int.ofNat_zero] at hr
      refine ⟨_, by simp (maxDischargeDepth := 9) only [go_sem, ↓reduceIte, reduceCtorEq, Nat.reduceEqDiff, Int.reduceLE, Int.reduceLT, Int.reduceEq, Int.reduceNeg, Int.reduceAdd, Int.reduceSub, Nat.reduceAdd, Nat.reduceLeDiff, argFr, hN, hok, h0, Int.toNat_natCast, hg, hkc, hk, hr, hsl, gt_iff_lt, scanWrong_c, atE]; rfl, rfl, .inr ⟨_, _, rfl⟩⟩
    · have hw : IntKind.i64.wrap ((a : Int) + m) = ((a + m : Nat) : Int) := by rw [w64s] <;> omega
      have hw1 : IntKind.i64.wrap ((a : Int) + 1) = ((a + 1 : Nat) : Int) := by rw [w64s] <;> omega
      have hw2 : IntKind.i64.wrap (((a + m : Nat) : Int) - 1) = ((a + m - 1 : Nat) : Int) := by rw [w64s] <;> omega
      have hm0 : (0 : Int) < m := by omega
      refine ⟨_, by simp (maxDischargeDepth := 9) only [go_sem, ↓reduceIte, reduceCtorEq, Nat.reduceEqDiff, Int.reduceLE, Int.reduceLT, Int.reduceEq, Int.reduceNeg, Int.reduceAdd, Int.reduceSub, Nat.reduceAdd, Nat.reduceLeDiff, argFr, hN, hok, h0, Int.toNat_natCast, hg, hkc, hk, hr, hsl, hw, hw1, hw2, gt_iff_lt, hm0, sliceS_lohi (show a + 1 ≤ a + m - 1 by omega) (show a + m - 1 ≤ s.length by omega)]; rfl, rfl, .inl ⟨_, _, m, rfl, by omega, by omega, by omega, by simp; omega⟩⟩
  · obtain ⟨m, m1, hr⟩ := mark_c (h := h.ext [some (ABlk.rows 3 [[AV.int IntKind.i64 0, AV.str [], AV.int IntKind.i64 0]]), some (ABlk.rows 3 [[AV.int IntKind.i64 4, AV.str [], AV.int IntKind.i64 (a : Int)]])] []) (AH.ok_ext0 hok) hdp
    simp only [List.length_drop] at m1
    have hsl := sliceS_lo (s := s) (Nat.le_of_lt ha)
    by_cases hm : m = 0
    · subst hm
      simp only [Int.natCast_zero, Int.ofNat_zero] at hr
      refine ⟨_, by simp (maxDischargeDepth := 9) only [go_sem, ↓reduceIte, reduceCtorEq, Nat.reduceEqDiff, Int.reduceLE, Int.reduceLT, Int.reduceEq, Int.reduceNeg, Int.reduceAdd, Int.reduceSub, Nat.reduceAdd, Nat.reduceLeDiff, argFr, hN, hok, h0, Int.toNat_natCast, hg, hkc, hk, hr, hsl, scanWrong_c, atE]; rfl, rfl, .inr ⟨_, _, rfl⟩⟩
    · have hw : IntKind.i64.wrap ((a : Int) + m) = ((a + m : Nat) : Int) := by rw [w64s] <;> omega
      have hm0 : ((m : Int) = 0) = False := by simp; omega
      refine ⟨_, by simp (maxDischargeDepth := 9) only [go_sem, ↓reduceIte, reduceCtorEq, Nat.reduceEqDiff, Int.reduceLE, Int.reduceLT, Int.reduceEq, Int.reduceNeg, Int.reduceAdd, Int.reduceSub, Nat.reduceAdd, Nat.reduceLeDiff, argFr, hN, hok, h0, Int.toNat_natCast, hg, hkc, hk, hr, hsl, hw, hm0, sliceS_lohi (Nat.le_add_right a m) (show a + m ≤ s.length by omega)]; rfl, rfl, .inl ⟨_, _, m, rfl, by omega, by omega, by omega, by simp; omega⟩⟩
  · refine ⟨_, by simp (maxDischargeDepth := 9) only [go_sem, ↓reduceIte, reduceCtorEq, Nat.reduceEqDiff, Int.reduceLE, Int.reduceLT, Int.reduceEq, Int.reduceNeg, Int.reduceAdd, Int.reduceSub, Nat.reduceAdd, Nat.reduceLeDiff, argFr, hN, hok, h0, Int.toNat_natCast, hg, hkc, hk, scanWrong_c, atE]; rfl, rfl, .inr ⟨_, _, rfl⟩⟩
end
end Go.Proofs.YtfahpmlckobpmaaGreatDoor.Pi
/-
  The reader of texts (layer 4), 6: all tokens; the reader.
-/
namespace Go.Proofs.YtfahpmlckobpmaaGreatDoor.Pi
open Go

/-- tokens that stand ahead of the end -/
def TKE (L : Nat) (E : List (List AV)) : Prop := ∀ r ∈ E, ∃ (k : Int) (t : List Nat) (p : Int), r = [.int .i64 k, .str t, .int .i64 p] ∧ k ≠ 0 ∧ t.length ≤ L

def tkK (T : List (List AV)) (a : Nat) : Int := match T[a]? with | some (.int _ k :: _) => k | _ => 0
def tkS (T : List (List AV)) (a : Nat) : List Nat := match T[a]? with | some (_ :: .str s :: _) => s | _ => []
def tkP (T : List (List AV)) (a : Nat) : Int := match T[a]? with | some (_ :: _ :: .int _ p :: _) => p | _ => 0

/-- all tokens of a text -/
def TK (L : Nat) (T : List (List AV)) : Prop := T ≠ [] ∧ T.length ≤ L + 1 ∧ ∀ a, a < T.length → T[a]? = some [.int .i64 (tkK T a), .str (tkS T a), .int .i64 (tkP T a)] ∧ (tkS T a).length ≤ L ∧ (tkK T a ≠ 0 → a + 1 < T.length)

theorem TK_of {L : Nat} {E : List (List AV)} (hE : TKE L E) (hl : E.length ≤ L) (p : Int) : TK L (E ++ [[.int .i64 0, .str [], .int .i64 p]]) := by
  refine ⟨by simp, by simpa using hl, fun a ha => ?_⟩
  simp only [List.length_append, List.length_cons, List.length_nil] at ha
  by_cases hlt : a < E.length
  · obtain ⟨k, t, q, h1, h2, h3⟩ := hE E[a] (List.getElem_mem hlt)
    have hg : (E ++ [[AV.int .i64 0, AV.str [], AV.int .i64 p]])[a]? = some [.int .i64 k, .str t, .int .i64 q] := by rw [List.getElem?_append_left hlt, get_some hlt, h1]
    simp only [tkK, tkS, tkP, hg]
    refine ⟨trivial, h3, fun _ => ?_⟩
    simp only [List.length_append, List.length_cons, List.length_nil]; omega
  · obtain rfl : a = E.length := by omega
    have hg : (E ++ [[AV.int .i64 0, AV.str [], AV.int .i64 p]])[E.length]? = some [.int .i64 0, .str [], .int .i64 p] := by simp
    simp only [tkK, tkS, tkP, hg]
    exact ⟨trivial, by simp, fun h => absurd rfl h⟩

section
variable {h : AH} (hok : h.ok)
include hok

theorem tokens_loop {N : Nat} (hN : h.len = N) {s : List Nat} (hb : bytesL s) (hl : s.length ≤ 1000000) : ∀ (d p : Nat) (E : List (List AV)) (t : Tok) (G : List (Option ABlk)), s.length - p ≤ d → p ≤ s.length → E.length ≤ p → TKE s.length E → GT N 0 G t 3 E.length →
    ∃ x, LP EE L_scan_Tokens_0 [0, 4, 5] [(0, .str s), (4, .vs E t), (5, .int .i64 (p : Int))] (h.ext G []) = some x ∧
      ∃ G', x.2.2 = h.ext G' [] ∧ ((x.1 = .exit 0 ∧ fget x.2.1 0 = .str s ∧ ∃ E' t', fget x.2.1 4 = .vs E' t' ∧ TKE s.length E' ∧ E'.length ≤ s.length ∧ GT N 0 G' t' 3 E'.length) ∨ (x.1 = .ret ∧ fget x.2.1 2 = .vs [] .exact ∧ ∃ q n, fget x.2.1 3 = atE q n)) := by
  intro d
  induction d with
  | zero =>
    intro p E t G hd hp hEp hE ht
    have hlt : ¬ ((p : Int) < s.length) := by omega
    exact ⟨_, by rw [L_scan_Tokens_0_eq]; simp (maxDischargeDepth := 9) only [go_sem, ↓reduceIte, reduceCtorEq, Nat.reduceEqDiff, Int.reduceLE, Int.reduceLT, Int.reduceEq, Int.reduceNeg, Int.reduceAdd, Int.reduceSub, Nat.reduceAdd, Nat.reduceLeDiff, hlt]; rfl, G, rfl, .inl ⟨rfl, rfl, E, t, rfl, hE, by omega, ht⟩⟩
  | succ d ih =>
    intro p E t G hd hp hEp hE ht
    by_cases hlt' : p < s.length
    · have hlt : ((p : Int) < s.length) := by omega
      have hg : (h.ext G []).ok := AH.ok_ext0 hok
      rw [L_scan_Tokens_0_eq]
      simp (maxDischargeDepth := 9) only [go_sem, ↓reduceIte, reduceCtorEq, Nat.reduceEqDiff, Int.reduceLE, Int.reduceLT, Int.reduceEq, Int.reduceNeg, Int.reduceAdd, Int.reduceSub, Nat.reduceAdd, Nat.reduceLeDiff, hlt]
      refine W_callL (one_c hg hb hl hlt') ?_
      rintro v _ ⟨rfl, ⟨k, tx, n, rfl, hk, hn, hnl, htx⟩ | ⟨q, n, rfl⟩⟩
      · obtain ⟨l', q1, q2, q3, q4⟩ := append_pre (h := h) hN 0 (l := G ++ [some (ABlk.rows 3 [[AV.int .i64 k, AV.str tx, AV.int .i64 (p : Int)]])]) [] (E := E) (n := [[.int .i64 k, .str tx, .int .i64 (p : Int)]]) (t := t) (z := 3) (y := .vs [[.int .i64 k, .str tx, .int .i64 (p : Int)]] .exact) (Nat.zero_le _) (ht.snoc _) rfl (by simp) (fun r hr => by obtain ⟨_, _, _, rfl, _⟩ := hE r hr; rfl) (by simp [stripL, AV.strip, pureL, AV.pure]) (by simp only [List.length_cons, List.length_nil]; unfold maxLenA; omega)
        have hw : IntKind.i64.wrap ((p : Int) + n) = ((p + n : Nat) : Int) := by rw [w64s] <;> omega
        have hg' : (h.ext l' []).ok := AH.ok_ext0 hok
        obtain ⟨m, hm, hbl⟩ := blank_c hg' hl (n := p + n) hnl
        have hw2 : IntKind.i64.wrap (((p + n : Nat) : Int) + m) = ((p + n + m : Nat) : Int) := by rw [w64s] <;> omega
        simp only [stripL, List.map_cons, List.map_nil, AV.strip, List.length_append, List.length_cons, List.length_nil, Nat.zero_add] at q1 q4
        obtain ⟨x, x1, x2⟩ := ih (p + n + m) (E ++ [[.int .i64 k, .str tx, .int .i64 (p : Int)]]) _ l' (by omega) (by omega) (by simp only [List.length_append, List.length_cons, List.length_nil]; omega) (fun r hr => by
          rcases List.mem_append.1 hr with hr | hr
          · exact hE r hr
          · simp only [List.mem_singleton] at hr; exact ⟨_, _, _, hr, hk, htx⟩) (by simpa using q4)
        refine ⟨x, ?_, x2⟩
        simp (maxDischargeDepth := 9) only [go_sem, ↓reduceIte, reduceCtorEq, Nat.reduceEqDiff, Int.reduceLE, Int.reduceLT, Int.reduceEq, Int.reduceNeg, Int.reduceAdd, Int.reduceSub, Nat.reduceAdd, Nat.reduceLeDiff, hN, List.map_cons, q1, hw, hbl, hw2]
        exact x1
      · unfold atE
        exact ⟨_, by simp (maxDischargeDepth := 9) only [go_sem, ↓reduceIte, reduceCtorEq, Nat.reduceEqDiff, Int.reduceLE, Int.reduceLT, Int.reduceEq, Int.reduceNeg, Int.reduceAdd, Int.reduceSub, Nat.reduceAdd, Nat.reduceLeDiff, hN]; rfl, _, rfl, .inr ⟨rfl, rfl, q, n, rfl⟩⟩
    · have hlt : ¬ ((p : Int) < s.length) := by omega
      exact ⟨_, by rw [L_scan_Tokens_0_eq]; simp (maxDischargeDepth := 9) only [go_sem, ↓reduceIte, reduceCtorEq, Nat.reduceEqDiff, Int.reduceLE, Int.reduceLT, Int.reduceEq, Int.reduceNeg, Int.reduceAdd, Int.reduceSub, Nat.reduceAdd, Nat.reduceLeDiff, hlt]; rfl, G, rfl, .inl ⟨rfl, rfl, E, t, rfl, hE, by omega, ht⟩⟩

/-- what the reading of all tokens tells -/
def TokensP (s : List Nat) (h : AH) (v : AV) (h' : AH) : Prop :=
  h' = h ∧ ((∃ T, v = .tup [.vs T .shared, .nili] ∧ TK s.length T) ∨ (∃ e, v = .tup [.vs [] .shared, e] ∧ ((∃ p n, e = atE p n) ∨ ∃ n, e = noE n)))

theorem tokens_c {s : List Nat} (hb : bytesL s) (hl : s.length ≤ 1000000) : Rt EE K_scan_Tokens [.str s] h (TokensP s h) := by
  refine Rt_fn E_scan_Tokens rfl ?_
  generalize hN : h.len = N
  have hg : (h.ext [] []).ok := AH.ok_ext0 hok
  by_cases hbig : ((s.length : Int) > 65536)
  · exact ⟨_, by simp (maxDischargeDepth := 9) only [go_sem, ↓reduceIte, reduceCtorEq, Nat.reduceEqDiff, Int.reduceLE, Int.reduceLT, Int.reduceEq, Int.reduceNeg, Int.reduceAdd, Int.reduceSub, Nat.reduceAdd, Nat.reduceLeDiff, argFr, hN, hok, hbig]; rfl, rfl, .inr ⟨_, rfl, .inr ⟨_, rfl⟩⟩⟩
  · obtain ⟨m, hm, hbl⟩ := blank_c hg hl (n := 0) (Nat.zero_le _)
    simp only [Nat.zero_add] at hm
    simp only [Int.natCast_zero, Int.ofNat_zero] at hbl
    simp (maxDischargeDepth := 9) only [go_sem, ↓reduceIte, reduceCtorEq, Nat.reduceEqDiff, Int.reduceLE, Int.reduceLT, Int.reduceEq, Int.reduceNeg, Int.reduceAdd, Int.reduceSub, Nat.reduceAdd, Nat.reduceLeDiff, argFr, hN, hok, hbig, hbl]
    refine W_loop (tokens_loop hok hN hb hl s.length m [] .exact [] (by omega) hm (Nat.zero_le _) (fun r hr => by cases hr) (GT_exact ..)) ?_
    rintro e fr h' ⟨G', rfl, ⟨rfl, f0, E', t', f4, hE, hEl, hGT⟩ | ⟨rfl, f2, q, n, f3⟩⟩
    · obtain ⟨l', q1, q2, q3, q4⟩ := append_pre (h := h) hN 0 (l := G') [] (E := E') (n := [[.int .i64 0, .str [], .int .i64 (s.length : Int)]]) (t := t') (z := 3) (y := .vs [[.int .i64 0, .str [], .int .i64 (s.length : Int)]] .exact) (Nat.zero_le _) hGT rfl (by simp) (fun r hr => by obtain ⟨_, _, _, rfl, _⟩ := hE r hr; rfl) (by simp [stripL, AV.strip, pureL, AV.pure]) (by simp only [List.length_cons, List.length_nil]; unfold maxLenA; omega)
      simp only [stripL, List.map_cons, List.map_nil, AV.strip] at q1
      exact ⟨_, by simp (maxDischargeDepth := 9) only [go_sem, ↓reduceIte, reduceCtorEq, Nat.reduceEqDiff, Int.reduceLE, Int.reduceLT, Int.reduceEq, Int.reduceNeg, Int.reduceAdd, Int.reduceSub, Nat.reduceAdd, Nat.reduceLeDiff, hN, hok, f0, f4, q1]; rfl, rfl, .inl ⟨_, rfl, TK_of hE hEl _⟩⟩
    · unfold atE at f3
      exact ⟨_, by simp (maxDischargeDepth := 9) only [go_sem, ↓reduceIte, reduceCtorEq, Nat.reduceEqDiff, Int.reduceLE, Int.reduceLT, Int.reduceEq, Int.reduceNeg, Int.reduceAdd, Int.reduceSub, Nat.reduceAdd, Nat.reduceLeDiff, hN, hok, f2, f3]; rfl, rfl, .inr ⟨_, rfl, .inl ⟨q, n, rfl⟩⟩⟩

/-- the reader's block -/
def rd (T : List (List AV)) (a : Nat) : ABlk := .rows 2 [[.vs T .shared, .int .i64 (a : Int)]]

def NewP (s : List Nat) (h : AH) (v : AV) (h' : AH) : Prop :=
  (∃ T, v = .tup [.ptr (h.len + 0) 0 0, .nili] ∧ h' = h.ext [some (rd T 0)] [] ∧ TK s.length T) ∨ (∃ e, v = .tup [.nilp, e] ∧ h' = h ∧ ((∃ p n, e = atE p n) ∨ ∃ n, e = noE n))

theorem new_c {s : List Nat} (hb : bytesL s) (hl : s.length ≤ 1000000) : Rt EE K_scan_New [.str s] h (NewP s h) := by
  refine Rt_fn E_scan_New rfl ?_
  unfold NewP
  generalize hN : h.len = N
  have hg : (h.ext [] []).ok := AH.ok_ext0 hok
  simp (maxDischargeDepth := 9) only [go_sem, ↓reduceIte, reduceCtorEq, Nat.reduceEqDiff, Int.reduceLE, Int.reduceLT, Int.reduceEq, Int.reduceNeg, Int.reduceAdd, Int.reduceSub, Nat.reduceAdd, Nat.reduceLeDiff, argFr, hN, hok]
  refine W_call (tokens_c hg hb hl) ?_
  rintro v _ ⟨rfl, ⟨T, rfl, hT⟩ | ⟨e, rfl, he⟩⟩
  · refine ⟨_, by simp (maxDischargeDepth := 9) only [go_sem, ↓reduceIte, reduceCtorEq, Nat.reduceEqDiff, Int.reduceLE, Int.reduceLT, Int.reduceEq, Int.reduceNeg, Int.reduceAdd, Int.reduceSub, Nat.reduceAdd, Nat.reduceLeDiff, hN, hok, AH.leave_keep, List.all_cons, Nat.lt_irrefl, Nat.add_zero, Bool.false_and]; rfl, .inl ⟨T, rfl, rfl, hT⟩⟩
  · rcases he with ⟨p, n, rfl⟩ | ⟨n, rfl⟩
    · unfold atE
      exact ⟨_, by simp (maxDischargeDepth := 9) only [go_sem, ↓reduceIte, reduceCtorEq, Nat.reduceEqDiff, Int.reduceLE, Int.reduceLT, Int.reduceEq, Int.reduceNeg, Int.reduceAdd, Int.reduceSub, Nat.reduceAdd, Nat.reduceLeDiff, hN, hok]; rfl, .inr ⟨_, rfl, rfl, .inl ⟨p, n, rfl⟩⟩⟩
    · unfold noE
      exact ⟨_, by simp (maxDischargeDepth := 9) only [go_sem, ↓reduceIte, reduceCtorEq, Nat.reduceEqDiff, Int.reduceLE, Int.reduceLT, Int.reduceEq, Int.reduceNeg, Int.reduceAdd, Int.reduceSub, Nat.reduceAdd, Nat.reduceLeDiff, hN, hok]; rfl, .inr ⟨_, rfl, rfl, .inr ⟨n, rfl⟩⟩⟩
end

/-! ### the reader -/
/-- does it stand there? -/
def isT (T : List (List AV)) (a : Nat) (t : List Nat) : Bool := decide ((tkK T a = 1 ∨ tkK T a = 4) ∧ tkS T a = t)
theorem isT_next {L : Nat} {T : List (List AV)} (hT : TK L T) {a : Nat} (ha : a < T.length) {t : List Nat} (h : isT T a t = true) : a + 1 < T.length := by
  simp only [isT, decide_eq_true_eq] at h
  exact (hT.2.2 a ha).2.2 (by omega)

section
variable {g : AH} (hok : g.ok) {i a L : Nat} {T : List (List AV)} (hT : TK L T) (hg : g.get i = some (rd T a)) (ha : a < T.length)
include hok hT hg ha

theorem peek_c : C EE K_scan_Reader_Peek [.ptr i 0 0] g = some (.agg [.int .i64 (tkK T a), .str (tkS T a), .int .i64 (tkP T a)], g) := by
  rw [C_XS' E_scan_Reader_Peek _ _ rfl]
  generalize hN : g.len = N
  have hi : i < N := hN ▸ AH.lt_of_get hg
  have hget := (hT.2.2 a ha).1
  have h0 : (0 : Int) ≤ a := by omega
  simp (maxDischargeDepth := 9) only [go_sem, ↓reduceIte, reduceCtorEq, Nat.reduceEqDiff, Int.reduceLE, Int.reduceLT, Int.reduceEq, Int.reduceNeg, Int.reduceAdd, Int.reduceSub, Nat.reduceAdd, Nat.reduceLeDiff, argFr, hN, hok, hi, hg, rd, h0, Int.toNat_natCast, hget]

theorem take_c (hk : tkK T a ≠ 0) (hal : T.length ≤ 1000000) : C EE K_scan_Reader_Take [.ptr i 0 0] g = some (.agg [.int .i64 (tkK T a), .str (tkS T a), .int .i64 (tkP T a)], g.set i (rd T (a + 1))) := by
  rw [C_XS' E_scan_Reader_Take _ _ rfl]
  generalize hN : g.len = N
  have hi : i < N := hN ▸ AH.lt_of_get hg
  have hw : IntKind.i64.wrap ((a : Int) + 1) = ((a + 1 : Nat) : Int) := by rw [w64s] <;> omega
  have hp := peek_c (g := g.ext [some (ABlk.rows 3 [[AV.int IntKind.i64 0, AV.str [], AV.int IntKind.i64 0]])] []) (AH.ok_ext0 hok) hT (by rw [AH.get_ext_old hN hi]; exact hg) ha
  unfold rd at hg
  unfold rd
  simp (maxDischargeDepth := 9) only [go_sem, ↓reduceIte, reduceCtorEq, Nat.reduceEqDiff, Int.reduceLE, Int.reduceLT, Int.reduceEq, Int.reduceNeg, Int.reduceAdd, Int.reduceSub, Nat.reduceAdd, Nat.reduceLeDiff, argFr, hN, hok, hi, hp, hg, hk, hw]

theorem take0_c (hk : tkK T a = 0) : C EE K_scan_Reader_Take [.ptr i 0 0] g = some (.agg [.int .i64 (tkK T a), .str (tkS T a), .int .i64 (tkP T a)], g) := by
  rw [C_XS' E_scan_Reader_Take _ _ rfl]
  generalize hN : g.len = N
  have hi : i < N := hN ▸ AH.lt_of_get hg
  have hp := peek_c (g := g.ext [some (ABlk.rows 3 [[AV.int IntKind.i64 0, AV.str [], AV.int IntKind.i64 0]])] []) (AH.ok_ext0 hok) hT (by rw [AH.get_ext_old hN hi]; exact hg) ha
  simp (maxDischargeDepth := 9) only [go_sem, ↓reduceIte, reduceCtorEq, Nat.reduceEqDiff, Int.reduceLE, Int.reduceLT, Int.reduceEq, Int.reduceNeg, Int.reduceAdd, Int.reduceSub, Nat.reduceAdd, Nat.reduceLeDiff, argFr, hN, hok, hi, hp, hg, hk]

theorem is_c (t : List Nat) : C EE K_scan_Reader_Is [.ptr i 0 0, .str t] g = some (.bool (isT T a t), g) := by
  rw [C_XS' E_scan_Reader_Is _ _ rfl]
  generalize hN : g.len = N
  have hi : i < N := hN ▸ AH.lt_of_get hg
  have hp := peek_c (g := g.ext [] []) (AH.ok_ext0 hok) hT (by rw [AH.get_ext_old hN hi]; exact hg) ha
  unfold isT
  by_cases h1 : tkK T a = 1
  · simp (maxDischargeDepth := 9) only [go_sem, ↓reduceIte, reduceCtorEq, Nat.reduceEqDiff, Int.reduceLE, Int.reduceLT, Int.reduceEq, Int.reduceNeg, Int.reduceAdd, Int.reduceSub, Nat.reduceAdd, Nat.reduceLeDiff, argFr, hN, hok, hi, hp, h1, strOp, true_or]
  · by_cases h4 : tkK T a = 4
    · have h14 : ((4 : Int) = 1) = False := by simp
      simp (maxDischargeDepth := 9) only [go_sem, ↓reduceIte, reduceCtorEq, Nat.reduceEqDiff, Int.reduceLE, Int.reduceLT, Int.reduceEq, Int.reduceNeg, Int.reduceAdd, Int.reduceSub, Nat.reduceAdd, Nat.reduceLeDiff, argFr, hN, hok, hi, hp, h4, h14, strOp, or_true]
    · simp (maxDischargeDepth := 9) only [go_sem, ↓reduceIte, reduceCtorEq, Nat.reduceEqDiff, Int.reduceLE, Int.reduceLT, Int.reduceEq, Int.reduceNeg, Int.reduceAdd, Int.reduceSub, Nat.reduceAdd, Nat.reduceLeDiff, argFr, hN, hok, hi, hp, h1, h4, strOp, or_self, false_and]

theorem skip_c (t : List Nat) (hs : isT T a t = true) (hal : T.length ≤ 1000000) : C EE K_scan_Reader_Skip [.ptr i 0 0, .str t] g = some (.bool true, g.set i (rd T (a + 1))) := by
  rw [C_XS' E_scan_Reader_Skip _ _ rfl]
  have hk : tkK T a ≠ 0 := by simp only [isT, decide_eq_true_eq] at hs; omega
  simp (maxDischargeDepth := 9) only [go_sem, ↓reduceIte, reduceCtorEq, Nat.reduceEqDiff, Int.reduceLE, Int.reduceLT, Int.reduceEq, Int.reduceNeg, Int.reduceAdd, Int.reduceSub, Nat.reduceAdd, Nat.reduceLeDiff, argFr, hok, AH.ext_nil, is_c hok hT hg ha, hs, take_c hok hT hg ha hk hal]
theorem skip0_c (t : List Nat) (hs : isT T a t = false) : C EE K_scan_Reader_Skip [.ptr i 0 0, .str t] g = some (.bool false, g) := by
  rw [C_XS' E_scan_Reader_Skip _ _ rfl]
  simp (maxDischargeDepth := 9) only [go_sem, ↓reduceIte, reduceCtorEq, Nat.reduceEqDiff, Int.reduceLE, Int.reduceLT, Int.reduceEq, Int.reduceNeg, Int.reduceAdd, Int.reduceSub, Nat.reduceAdd, Nat.reduceLeDiff, argFr, hok, AH.ext_nil, is_c hok hT hg ha, hs]

theorem rwrong_c : C EE K_scan_Reader_wrong [.ptr i 0 0] g = some (atE (tkP T a) 20, g) := by
  rw [C_XS' E_scan_Reader_wrong _ _ rfl]
  simp (maxDischargeDepth := 9) only [go_sem, ↓reduceIte, reduceCtorEq, Nat.reduceEqDiff, Int.reduceLE, Int.reduceLT, Int.reduceEq, Int.reduceNeg, Int.reduceAdd, Int.reduceSub, Nat.reduceAdd, Nat.reduceLeDiff, argFr, hok, AH.ext_nil, peek_c hok hT hg ha, scanWrong_c hok, atE]

theorem want_c (t : List Nat) (hs : isT T a t = true) (hal : T.length ≤ 1000000) : C EE K_scan_Reader_Want [.ptr i 0 0, .str t] g = some (.nili, g.set i (rd T (a + 1))) := by
  rw [C_XS' E_scan_Reader_Want _ _ rfl]
  simp (maxDischargeDepth := 9) only [go_sem, ↓reduceIte, reduceCtorEq, Nat.reduceEqDiff, Int.reduceLE, Int.reduceLT, Int.reduceEq, Int.reduceNeg, Int.reduceAdd, Int.reduceSub, Nat.reduceAdd, Nat.reduceLeDiff, argFr, hok, AH.ext_nil, skip_c hok hT hg ha t hs hal]
theorem want0_c (t : List Nat) (hs : isT T a t = false) : C EE K_scan_Reader_Want [.ptr i 0 0, .str t] g = some (atE (tkP T a) 20, g) := by
  rw [C_XS' E_scan_Reader_Want _ _ rfl]
  simp (maxDischargeDepth := 9) only [go_sem, ↓reduceIte, reduceCtorEq, Nat.reduceEqDiff, Int.reduceLE, Int.reduceLT, Int.reduceEq, Int.reduceNeg, Int.reduceAdd, Int.reduceSub, Nat.reduceAdd, Nat.reduceLeDiff, argFr, hok, AH.ext_nil, skip0_c hok hT hg ha t hs, rwrong_c hok hT hg ha, atE]

theorem number_c (hk : tkK T a = 2) (hal : T.length ≤ 1000000) (hL : L ≤ 1000000) : ∃ n : Int, I64 n ∧ C EE K_scan_Reader_Number [.ptr i 0 0] g = some (.tup [.int .i64 n, .nili], g.set i (rd T (a + 1))) := by
  obtain ⟨n, b, hn, hd⟩ := digits_c (h := g.set i (rd T (a + 1))) (AH.ok_set hok _ _) (s := tkS T a) (Nat.le_trans (hT.2.2 a ha).2.1 hL)
  refine ⟨n, hn, ?_⟩
  have hk0 : tkK T a ≠ 0 := by omega
  have ht := take_c hok hT hg ha hk0 hal
  have hp := peek_c hok hT hg ha
  rw [hk] at ht hp
  rw [C_XS' E_scan_Reader_Number _ _ rfl]
  simp (maxDischargeDepth := 9) only [go_sem, ↓reduceIte, reduceCtorEq, Nat.reduceEqDiff, Int.reduceLE, Int.reduceLT, Int.reduceEq, Int.reduceNeg, Int.reduceAdd, Int.reduceSub, Nat.reduceAdd, Nat.reduceLeDiff, argFr, hok, AH.ext_nil, hp, ht, hd]
end
end Go.Proofs.YtfahpmlckobpmaaGreatDoor.Pi
