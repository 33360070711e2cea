/-
  The kind of an expression: the program's function, for every expression (layer 10). Printed by gen_k4.py.
-/
import Derived.Test.YtfahpmlckobpmaaGreatDoorKindA
set_option linter.unusedSimpArgs false
set_option linter.unusedVariables false
set_option linter.unusedSectionVars false
namespace Go.Proofs.YtfahpmlckobpmaaGreatDoor.Pi
open Go

theorem nat2 : ((2 : Nat) : Int) = 2 := rfl
theorem nat3 : ((3 : Nat) : Int) = 3 := rfl
theorem errK_err (p n : Int) : errK (.err p n) = atE p n := rfl
set_option maxHeartbeats 4000000 in
theorem kind_all {l : List Slt} {tok : Tok} (hl : l.length ≤ 100000) : ∀ x, KindC l tok x := by
  refine Xp.ind fun x hk => ?_
  intro g hok
  by_cases hw : x.kids.length = wantN x.op
  · obtain ⟨b, hc, hb⟩ := chkKind_c hok hl hk hw
    have hlen := encEs_len x.kids
    cases hq : kS l x with
    | ok z =>
      rw [hq] at hc
      have hbz := hb z hq
      subst hbz
      simp only [errK] at hc
      rw [C_XS' E_check_Kind _ _ rfl]
      rcases op_cases x.op with e | e | e | e | e | e | e | e | e | e | e | e | e | e | e | e | e | e | e | ⟨h1, h2, h3, h4, h5, h6, h7, h8, h9, i1, i2, i3, i4, i5, i6, i7, i8, i9, j1⟩
      · rw [e] at hw hc ⊢
        have hw' : x.kids.length = 0 := hw
        simp (maxDischargeDepth := 9) only [go_sem, ↓reduceIte, reduceCtorEq, Nat.reduceEqDiff, Int.reduceLE, Int.reduceLT, Int.reduceEq, Int.reduceNeg, Int.reduceAdd, Int.reduceSub, Nat.reduceAdd, Nat.reduceLeDiff, argFr, hok, AH.ext_nil, strOp, List.cons.injEq, false_and, and_false, or_self, or_false, false_or, true_or, or_true, hlen, hw', hc, resK, Int.natCast_zero, Int.natCast_one, Int.cast_ofNat_Int, nat2, nat3]
      · rw [e] at hw hc ⊢
        have hw' : x.kids.length = 0 := hw
        simp (maxDischargeDepth := 9) only [go_sem, ↓reduceIte, reduceCtorEq, Nat.reduceEqDiff, Int.reduceLE, Int.reduceLT, Int.reduceEq, Int.reduceNeg, Int.reduceAdd, Int.reduceSub, Nat.reduceAdd, Nat.reduceLeDiff, argFr, hok, AH.ext_nil, strOp, List.cons.injEq, false_and, and_false, or_self, or_false, false_or, true_or, or_true, hlen, hw', hc, resK, Int.natCast_zero, Int.natCast_one, Int.cast_ofNat_Int, nat2, nat3]
      · rw [e] at hw hc ⊢
        have hw' : x.kids.length = 0 := hw
        simp (maxDischargeDepth := 9) only [go_sem, ↓reduceIte, reduceCtorEq, Nat.reduceEqDiff, Int.reduceLE, Int.reduceLT, Int.reduceEq, Int.reduceNeg, Int.reduceAdd, Int.reduceSub, Nat.reduceAdd, Nat.reduceLeDiff, argFr, hok, AH.ext_nil, strOp, List.cons.injEq, false_and, and_false, or_self, or_false, false_or, true_or, or_true, hlen, hw', hc, resK, Int.natCast_zero, Int.natCast_one, Int.cast_ofNat_Int, nat2, nat3]
      · rw [e] at hw hc ⊢
        have hw' : x.kids.length = 0 := hw
        simp (maxDischargeDepth := 9) only [go_sem, ↓reduceIte, reduceCtorEq, Nat.reduceEqDiff, Int.reduceLE, Int.reduceLT, Int.reduceEq, Int.reduceNeg, Int.reduceAdd, Int.reduceSub, Nat.reduceAdd, Nat.reduceLeDiff, argFr, hok, AH.ext_nil, strOp, List.cons.injEq, false_and, and_false, or_self, or_false, false_or, true_or, or_true, hlen, hw', hc, resK, Int.natCast_zero, Int.natCast_one, Int.cast_ofNat_Int, nat2, nat3]
      · rw [e] at hw hc ⊢
        have hw' : x.kids.length = 1 := hw
        simp (maxDischargeDepth := 9) only [go_sem, ↓reduceIte, reduceCtorEq, Nat.reduceEqDiff, Int.reduceLE, Int.reduceLT, Int.reduceEq, Int.reduceNeg, Int.reduceAdd, Int.reduceSub, Nat.reduceAdd, Nat.reduceLeDiff, argFr, hok, AH.ext_nil, strOp, List.cons.injEq, false_and, and_false, or_self, or_false, false_or, true_or, or_true, hlen, hw', hc, resK, Int.natCast_zero, Int.natCast_one, Int.cast_ofNat_Int, nat2, nat3]
      · rw [e] at hw hc ⊢
        have hw' : x.kids.length = 1 := hw
        simp (maxDischargeDepth := 9) only [go_sem, ↓reduceIte, reduceCtorEq, Nat.reduceEqDiff, Int.reduceLE, Int.reduceLT, Int.reduceEq, Int.reduceNeg, Int.reduceAdd, Int.reduceSub, Nat.reduceAdd, Nat.reduceLeDiff, argFr, hok, AH.ext_nil, strOp, List.cons.injEq, false_and, and_false, or_self, or_false, false_or, true_or, or_true, hlen, hw', hc, resK, Int.natCast_zero, Int.natCast_one, Int.cast_ofNat_Int, nat2, nat3]
      · rw [e] at hw hc ⊢
        have hw' : x.kids.length = 2 := hw
        simp (maxDischargeDepth := 9) only [go_sem, ↓reduceIte, reduceCtorEq, Nat.reduceEqDiff, Int.reduceLE, Int.reduceLT, Int.reduceEq, Int.reduceNeg, Int.reduceAdd, Int.reduceSub, Nat.reduceAdd, Nat.reduceLeDiff, argFr, hok, AH.ext_nil, strOp, List.cons.injEq, false_and, and_false, or_self, or_false, false_or, true_or, or_true, hlen, hw', hc, resK, Int.natCast_zero, Int.natCast_one, Int.cast_ofNat_Int, nat2, nat3]
      · rw [e] at hw hc ⊢
        have hw' : x.kids.length = 2 := hw
        simp (maxDischargeDepth := 9) only [go_sem, ↓reduceIte, reduceCtorEq, Nat.reduceEqDiff, Int.reduceLE, Int.reduceLT, Int.reduceEq, Int.reduceNeg, Int.reduceAdd, Int.reduceSub, Nat.reduceAdd, Nat.reduceLeDiff, argFr, hok, AH.ext_nil, strOp, List.cons.injEq, false_and, and_false, or_self, or_false, false_or, true_or, or_true, hlen, hw', hc, resK, Int.natCast_zero, Int.natCast_one, Int.cast_ofNat_Int, nat2, nat3]
      · rw [e] at hw hc ⊢
        have hw' : x.kids.length = 2 := hw
        simp (maxDischargeDepth := 9) only [go_sem, ↓reduceIte, reduceCtorEq, Nat.reduceEqDiff, Int.reduceLE, Int.reduceLT, Int.reduceEq, Int.reduceNeg, Int.reduceAdd, Int.reduceSub, Nat.reduceAdd, Nat.reduceLeDiff, argFr, hok, AH.ext_nil, strOp, List.cons.injEq, false_and, and_false, or_self, or_false, false_or, true_or, or_true, hlen, hw', hc, resK, Int.natCast_zero, Int.natCast_one, Int.cast_ofNat_Int, nat2, nat3]
      · rw [e] at hw hc ⊢
        have hw' : x.kids.length = 2 := hw
        simp (maxDischargeDepth := 9) only [go_sem, ↓reduceIte, reduceCtorEq, Nat.reduceEqDiff, Int.reduceLE, Int.reduceLT, Int.reduceEq, Int.reduceNeg, Int.reduceAdd, Int.reduceSub, Nat.reduceAdd, Nat.reduceLeDiff, argFr, hok, AH.ext_nil, strOp, List.cons.injEq, false_and, and_false, or_self, or_false, false_or, true_or, or_true, hlen, hw', hc, resK, Int.natCast_zero, Int.natCast_one, Int.cast_ofNat_Int, nat2, nat3]
      · rw [e] at hw hc ⊢
        have hw' : x.kids.length = 2 := hw
        simp (maxDischargeDepth := 9) only [go_sem, ↓reduceIte, reduceCtorEq, Nat.reduceEqDiff, Int.reduceLE, Int.reduceLT, Int.reduceEq, Int.reduceNeg, Int.reduceAdd, Int.reduceSub, Nat.reduceAdd, Nat.reduceLeDiff, argFr, hok, AH.ext_nil, strOp, List.cons.injEq, false_and, and_false, or_self, or_false, false_or, true_or, or_true, hlen, hw', hc, resK, Int.natCast_zero, Int.natCast_one, Int.cast_ofNat_Int, nat2, nat3]
      · rw [e] at hw hc ⊢
        have hw' : x.kids.length = 2 := hw
        simp (maxDischargeDepth := 9) only [go_sem, ↓reduceIte, reduceCtorEq, Nat.reduceEqDiff, Int.reduceLE, Int.reduceLT, Int.reduceEq, Int.reduceNeg, Int.reduceAdd, Int.reduceSub, Nat.reduceAdd, Nat.reduceLeDiff, argFr, hok, AH.ext_nil, strOp, List.cons.injEq, false_and, and_false, or_self, or_false, false_or, true_or, or_true, hlen, hw', hc, resK, Int.natCast_zero, Int.natCast_one, Int.cast_ofNat_Int, nat2, nat3]
      · rw [e] at hw hc ⊢
        have hw' : x.kids.length = 2 := hw
        simp (maxDischargeDepth := 9) only [go_sem, ↓reduceIte, reduceCtorEq, Nat.reduceEqDiff, Int.reduceLE, Int.reduceLT, Int.reduceEq, Int.reduceNeg, Int.reduceAdd, Int.reduceSub, Nat.reduceAdd, Nat.reduceLeDiff, argFr, hok, AH.ext_nil, strOp, List.cons.injEq, false_and, and_false, or_self, or_false, false_or, true_or, or_true, hlen, hw', hc, resK, Int.natCast_zero, Int.natCast_one, Int.cast_ofNat_Int, nat2, nat3]
      · rw [e] at hw hc ⊢
        have hw' : x.kids.length = 2 := hw
        simp (maxDischargeDepth := 9) only [go_sem, ↓reduceIte, reduceCtorEq, Nat.reduceEqDiff, Int.reduceLE, Int.reduceLT, Int.reduceEq, Int.reduceNeg, Int.reduceAdd, Int.reduceSub, Nat.reduceAdd, Nat.reduceLeDiff, argFr, hok, AH.ext_nil, strOp, List.cons.injEq, false_and, and_false, or_self, or_false, false_or, true_or, or_true, hlen, hw', hc, resK, Int.natCast_zero, Int.natCast_one, Int.cast_ofNat_Int, nat2, nat3]
      · rw [e] at hw hc ⊢
        have hw' : x.kids.length = 2 := hw
        simp (maxDischargeDepth := 9) only [go_sem, ↓reduceIte, reduceCtorEq, Nat.reduceEqDiff, Int.reduceLE, Int.reduceLT, Int.reduceEq, Int.reduceNeg, Int.reduceAdd, Int.reduceSub, Nat.reduceAdd, Nat.reduceLeDiff, argFr, hok, AH.ext_nil, strOp, List.cons.injEq, false_and, and_false, or_self, or_false, false_or, true_or, or_true, hlen, hw', hc, resK, Int.natCast_zero, Int.natCast_one, Int.cast_ofNat_Int, nat2, nat3]
      · rw [e] at hw hc ⊢
        have hw' : x.kids.length = 2 := hw
        simp (maxDischargeDepth := 9) only [go_sem, ↓reduceIte, reduceCtorEq, Nat.reduceEqDiff, Int.reduceLE, Int.reduceLT, Int.reduceEq, Int.reduceNeg, Int.reduceAdd, Int.reduceSub, Nat.reduceAdd, Nat.reduceLeDiff, argFr, hok, AH.ext_nil, strOp, List.cons.injEq, false_and, and_false, or_self, or_false, false_or, true_or, or_true, hlen, hw', hc, resK, Int.natCast_zero, Int.natCast_one, Int.cast_ofNat_Int, nat2, nat3]
      · rw [e] at hw hc ⊢
        have hw' : x.kids.length = 2 := hw
        simp (maxDischargeDepth := 9) only [go_sem, ↓reduceIte, reduceCtorEq, Nat.reduceEqDiff, Int.reduceLE, Int.reduceLT, Int.reduceEq, Int.reduceNeg, Int.reduceAdd, Int.reduceSub, Nat.reduceAdd, Nat.reduceLeDiff, argFr, hok, AH.ext_nil, strOp, List.cons.injEq, false_and, and_false, or_self, or_false, false_or, true_or, or_true, hlen, hw', hc, resK, Int.natCast_zero, Int.natCast_one, Int.cast_ofNat_Int, nat2, nat3]
      · rw [e] at hw hc ⊢
        have hw' : x.kids.length = 2 := hw
        simp (maxDischargeDepth := 9) only [go_sem, ↓reduceIte, reduceCtorEq, Nat.reduceEqDiff, Int.reduceLE, Int.reduceLT, Int.reduceEq, Int.reduceNeg, Int.reduceAdd, Int.reduceSub, Nat.reduceAdd, Nat.reduceLeDiff, argFr, hok, AH.ext_nil, strOp, List.cons.injEq, false_and, and_false, or_self, or_false, false_or, true_or, or_true, hlen, hw', hc, resK, Int.natCast_zero, Int.natCast_one, Int.cast_ofNat_Int, nat2, nat3]
      · rw [e] at hw hc ⊢
        have hw' : x.kids.length = 3 := hw
        simp (maxDischargeDepth := 9) only [go_sem, ↓reduceIte, reduceCtorEq, Nat.reduceEqDiff, Int.reduceLE, Int.reduceLT, Int.reduceEq, Int.reduceNeg, Int.reduceAdd, Int.reduceSub, Nat.reduceAdd, Nat.reduceLeDiff, argFr, hok, AH.ext_nil, strOp, List.cons.injEq, false_and, and_false, or_self, or_false, false_or, true_or, or_true, hlen, hw', hc, resK, Int.natCast_zero, Int.natCast_one, Int.cast_ofNat_Int, nat2, nat3]
      · have hw' : x.kids.length = 2 := by rw [hw]; simp [wantN, *]
        simp (maxDischargeDepth := 9) only [go_sem, ↓reduceIte, reduceCtorEq, Nat.reduceEqDiff, Int.reduceLE, Int.reduceLT, Int.reduceEq, Int.reduceNeg, Int.reduceAdd, Int.reduceSub, Nat.reduceAdd, Nat.reduceLeDiff, argFr, hok, AH.ext_nil, strOp, List.cons.injEq, false_and, and_false, or_self, or_false, false_or, true_or, or_true, hlen, hw', hc, resK, h1, h2, h3, h4, h5, h6, h7, h8, h9, i1, i2, i3, i4, i5, i6, i7, i8, i9, j1, Int.natCast_zero, Int.natCast_one, Int.cast_ofNat_Int, nat2, nat3]
    | err p n =>
      rw [hq] at hc
      simp only [errK, atE] at hc
      rw [C_XS' E_check_Kind _ _ rfl]
      rcases op_cases x.op with e | e | e | e | e | e | e | e | e | e | e | e | e | e | e | e | e | e | e | ⟨h1, h2, h3, h4, h5, h6, h7, h8, h9, i1, i2, i3, i4, i5, i6, i7, i8, i9, j1⟩
      · rw [e] at hw hc ⊢
        have hw' : x.kids.length = 0 := hw
        simp (maxDischargeDepth := 9) only [go_sem, ↓reduceIte, reduceCtorEq, Nat.reduceEqDiff, Int.reduceLE, Int.reduceLT, Int.reduceEq, Int.reduceNeg, Int.reduceAdd, Int.reduceSub, Nat.reduceAdd, Nat.reduceLeDiff, argFr, hok, AH.ext_nil, strOp, List.cons.injEq, false_and, and_false, or_self, or_false, false_or, true_or, or_true, hlen, hw', hc, resK, atE, Int.natCast_zero, Int.natCast_one, Int.cast_ofNat_Int, nat2, nat3]
      · rw [e] at hw hc ⊢
        have hw' : x.kids.length = 0 := hw
        simp (maxDischargeDepth := 9) only [go_sem, ↓reduceIte, reduceCtorEq, Nat.reduceEqDiff, Int.reduceLE, Int.reduceLT, Int.reduceEq, Int.reduceNeg, Int.reduceAdd, Int.reduceSub, Nat.reduceAdd, Nat.reduceLeDiff, argFr, hok, AH.ext_nil, strOp, List.cons.injEq, false_and, and_false, or_self, or_false, false_or, true_or, or_true, hlen, hw', hc, resK, atE, Int.natCast_zero, Int.natCast_one, Int.cast_ofNat_Int, nat2, nat3]
      · rw [e] at hw hc ⊢
        have hw' : x.kids.length = 0 := hw
        simp (maxDischargeDepth := 9) only [go_sem, ↓reduceIte, reduceCtorEq, Nat.reduceEqDiff, Int.reduceLE, Int.reduceLT, Int.reduceEq, Int.reduceNeg, Int.reduceAdd, Int.reduceSub, Nat.reduceAdd, Nat.reduceLeDiff, argFr, hok, AH.ext_nil, strOp, List.cons.injEq, false_and, and_false, or_self, or_false, false_or, true_or, or_true, hlen, hw', hc, resK, atE, Int.natCast_zero, Int.natCast_one, Int.cast_ofNat_Int, nat2, nat3]
      · rw [e] at hw hc ⊢
        have hw' : x.kids.length = 0 := hw
        simp (maxDischargeDepth := 9) only [go_sem, ↓reduceIte, reduceCtorEq, Nat.reduceEqDiff, Int.reduceLE, Int.reduceLT, Int.reduceEq, Int.reduceNeg, Int.reduceAdd, Int.reduceSub, Nat.reduceAdd, Nat.reduceLeDiff, argFr, hok, AH.ext_nil, strOp, List.cons.injEq, false_and, and_false, or_self, or_false, false_or, true_or, or_true, hlen, hw', hc, resK, atE, Int.natCast_zero, Int.natCast_one, Int.cast_ofNat_Int, nat2, nat3]
      · rw [e] at hw hc ⊢
        have hw' : x.kids.length = 1 := hw
        simp (maxDischargeDepth := 9) only [go_sem, ↓reduceIte, reduceCtorEq, Nat.reduceEqDiff, Int.reduceLE, Int.reduceLT, Int.reduceEq, Int.reduceNeg, Int.reduceAdd, Int.reduceSub, Nat.reduceAdd, Nat.reduceLeDiff, argFr, hok, AH.ext_nil, strOp, List.cons.injEq, false_and, and_false, or_self, or_false, false_or, true_or, or_true, hlen, hw', hc, resK, atE, Int.natCast_zero, Int.natCast_one, Int.cast_ofNat_Int, nat2, nat3]
      · rw [e] at hw hc ⊢
        have hw' : x.kids.length = 1 := hw
        simp (maxDischargeDepth := 9) only [go_sem, ↓reduceIte, reduceCtorEq, Nat.reduceEqDiff, Int.reduceLE, Int.reduceLT, Int.reduceEq, Int.reduceNeg, Int.reduceAdd, Int.reduceSub, Nat.reduceAdd, Nat.reduceLeDiff, argFr, hok, AH.ext_nil, strOp, List.cons.injEq, false_and, and_false, or_self, or_false, false_or, true_or, or_true, hlen, hw', hc, resK, atE, Int.natCast_zero, Int.natCast_one, Int.cast_ofNat_Int, nat2, nat3]
      · rw [e] at hw hc ⊢
        have hw' : x.kids.length = 2 := hw
        simp (maxDischargeDepth := 9) only [go_sem, ↓reduceIte, reduceCtorEq, Nat.reduceEqDiff, Int.reduceLE, Int.reduceLT, Int.reduceEq, Int.reduceNeg, Int.reduceAdd, Int.reduceSub, Nat.reduceAdd, Nat.reduceLeDiff, argFr, hok, AH.ext_nil, strOp, List.cons.injEq, false_and, and_false, or_self, or_false, false_or, true_or, or_true, hlen, hw', hc, resK, atE, Int.natCast_zero, Int.natCast_one, Int.cast_ofNat_Int, nat2, nat3]
      · rw [e] at hw hc ⊢
        have hw' : x.kids.length = 2 := hw
        simp (maxDischargeDepth := 9) only [go_sem, ↓reduceIte, reduceCtorEq, Nat.reduceEqDiff, Int.reduceLE, Int.reduceLT, Int.reduceEq, Int.reduceNeg, Int.reduceAdd, Int.reduceSub, Nat.reduceAdd, Nat.reduceLeDiff, argFr, hok, AH.ext_nil, strOp, List.cons.injEq, false_and, and_false, or_self, or_false, false_or, true_or, or_true, hlen, hw', hc, resK, atE, Int.natCast_zero, Int.natCast_one, Int.cast_ofNat_Int, nat2, nat3]
      · rw [e] at hw hc ⊢
        have hw' : x.kids.length = 2 := hw
        simp (maxDischargeDepth := 9) only [go_sem, ↓reduceIte, reduceCtorEq, Nat.reduceEqDiff, Int.reduceLE, Int.reduceLT, Int.reduceEq, Int.reduceNeg, Int.reduceAdd, Int.reduceSub, Nat.reduceAdd, Nat.reduceLeDiff, argFr, hok, AH.ext_nil, strOp, List.cons.injEq, false_and, and_false, or_self, or_false, false_or, true_or, or_true, hlen, hw', hc, resK, atE, Int.natCast_zero, Int.natCast_one, Int.cast_ofNat_Int, nat2, nat3]
      · rw [e] at hw hc ⊢
        have hw' : x.kids.length = 2 := hw
        simp (maxDischargeDepth := 9) only [go_sem, ↓reduceIte, reduceCtorEq, Nat.reduceEqDiff, Int.reduceLE, Int.reduceLT, Int.reduceEq, Int.reduceNeg, Int.reduceAdd, Int.reduceSub, Nat.reduceAdd, Nat.reduceLeDiff, argFr, hok, AH.ext_nil, strOp, List.cons.injEq, false_and, and_false, or_self, or_false, false_or, true_or, or_true, hlen, hw', hc, resK, atE, Int.natCast_zero, Int.natCast_one, Int.cast_ofNat_Int, nat2, nat3]
      · rw [e] at hw hc ⊢
        have hw' : x.kids.length = 2 := hw
        simp (maxDischargeDepth := 9) only [go_sem, ↓reduceIte, reduceCtorEq, Nat.reduceEqDiff, Int.reduceLE, Int.reduceLT, Int.reduceEq, Int.reduceNeg, Int.reduceAdd, Int.reduceSub, Nat.reduceAdd, Nat.reduceLeDiff, argFr, hok, AH.ext_nil, strOp, List.cons.injEq, false_and, and_false, or_self, or_false, false_or, true_or, or_true, hlen, hw', hc, resK, atE, Int.natCast_zero, Int.natCast_one, Int.cast_ofNat_Int, nat2, nat3]
      · rw [e] at hw hc ⊢
        have hw' : x.kids.length = 2 := hw
        simp (maxDischargeDepth := 9) only [go_sem, ↓reduceIte, reduceCtorEq, Nat.reduceEqDiff, Int.reduceLE, Int.reduceLT, Int.reduceEq, Int.reduceNeg, Int.reduceAdd, Int.reduceSub, Nat.reduceAdd, Nat.reduceLeDiff, argFr, hok, AH.ext_nil, strOp, List.cons.injEq, false_and, and_false, or_self, or_false, false_or, true_or, or_true, hlen, hw', hc, resK, atE, Int.natCast_zero, Int.natCast_one, Int.cast_ofNat_Int, nat2, nat3]
      · rw [e] at hw hc ⊢
        have hw' : x.kids.length = 2 := hw
        simp (maxDischargeDepth := 9) only [go_sem, ↓reduceIte, reduceCtorEq, Nat.reduceEqDiff, Int.reduceLE, Int.reduceLT, Int.reduceEq, Int.reduceNeg, Int.reduceAdd, Int.reduceSub, Nat.reduceAdd, Nat.reduceLeDiff, argFr, hok, AH.ext_nil, strOp, List.cons.injEq, false_and, and_false, or_self, or_false, false_or, true_or, or_true, hlen, hw', hc, resK, atE, Int.natCast_zero, Int.natCast_one, Int.cast_ofNat_Int, nat2, nat3]
      · rw [e] at hw hc ⊢
        have hw' : x.kids.length = 2 := hw
        simp (maxDischargeDepth := 9) only [go_sem, ↓reduceIte, reduceCtorEq, Nat.reduceEqDiff, Int.reduceLE, Int.reduceLT, Int.reduceEq, Int.reduceNeg, Int.reduceAdd, Int.reduceSub, Nat.reduceAdd, Nat.reduceLeDiff, argFr, hok, AH.ext_nil, strOp, List.cons.injEq, false_and, and_false, or_self, or_false, false_or, true_or, or_true, hlen, hw', hc, resK, atE, Int.natCast_zero, Int.natCast_one, Int.cast_ofNat_Int, nat2, nat3]
      · rw [e] at hw hc ⊢
        have hw' : x.kids.length = 2 := hw
        simp (maxDischargeDepth := 9) only [go_sem, ↓reduceIte, reduceCtorEq, Nat.reduceEqDiff, Int.reduceLE, Int.reduceLT, Int.reduceEq, Int.reduceNeg, Int.reduceAdd, Int.reduceSub, Nat.reduceAdd, Nat.reduceLeDiff, argFr, hok, AH.ext_nil, strOp, List.cons.injEq, false_and, and_false, or_self, or_false, false_or, true_or, or_true, hlen, hw', hc, resK, atE, Int.natCast_zero, Int.natCast_one, Int.cast_ofNat_Int, nat2, nat3]
      · rw [e] at hw hc ⊢
        have hw' : x.kids.length = 2 := hw
        simp (maxDischargeDepth := 9) only [go_sem, ↓reduceIte, reduceCtorEq, Nat.reduceEqDiff, Int.reduceLE, Int.reduceLT, Int.reduceEq, Int.reduceNeg, Int.reduceAdd, Int.reduceSub, Nat.reduceAdd, Nat.reduceLeDiff, argFr, hok, AH.ext_nil, strOp, List.cons.injEq, false_and, and_false, or_self, or_false, false_or, true_or, or_true, hlen, hw', hc, resK, atE, Int.natCast_zero, Int.natCast_one, Int.cast_ofNat_Int, nat2, nat3]
      · rw [e] at hw hc ⊢
        have hw' : x.kids.length = 2 := hw
        simp (maxDischargeDepth := 9) only [go_sem, ↓reduceIte, reduceCtorEq, Nat.reduceEqDiff, Int.reduceLE, Int.reduceLT, Int.reduceEq, Int.reduceNeg, Int.reduceAdd, Int.reduceSub, Nat.reduceAdd, Nat.reduceLeDiff, argFr, hok, AH.ext_nil, strOp, List.cons.injEq, false_and, and_false, or_self, or_false, false_or, true_or, or_true, hlen, hw', hc, resK, atE, Int.natCast_zero, Int.natCast_one, Int.cast_ofNat_Int, nat2, nat3]
      · rw [e] at hw hc ⊢
        have hw' : x.kids.length = 2 := hw
        simp (maxDischargeDepth := 9) only [go_sem, ↓reduceIte, reduceCtorEq, Nat.reduceEqDiff, Int.reduceLE, Int.reduceLT, Int.reduceEq, Int.reduceNeg, Int.reduceAdd, Int.reduceSub, Nat.reduceAdd, Nat.reduceLeDiff, argFr, hok, AH.ext_nil, strOp, List.cons.injEq, false_and, and_false, or_self, or_false, false_or, true_or, or_true, hlen, hw', hc, resK, atE, Int.natCast_zero, Int.natCast_one, Int.cast_ofNat_Int, nat2, nat3]
      · rw [e] at hw hc ⊢
        have hw' : x.kids.length = 3 := hw
        simp (maxDischargeDepth := 9) only [go_sem, ↓reduceIte, reduceCtorEq, Nat.reduceEqDiff, Int.reduceLE, Int.reduceLT, Int.reduceEq, Int.reduceNeg, Int.reduceAdd, Int.reduceSub, Nat.reduceAdd, Nat.reduceLeDiff, argFr, hok, AH.ext_nil, strOp, List.cons.injEq, false_and, and_false, or_self, or_false, false_or, true_or, or_true, hlen, hw', hc, resK, atE, Int.natCast_zero, Int.natCast_one, Int.cast_ofNat_Int, nat2, nat3]
      · have hw' : x.kids.length = 2 := by rw [hw]; simp [wantN, *]
        simp (maxDischargeDepth := 9) only [go_sem, ↓reduceIte, reduceCtorEq, Nat.reduceEqDiff, Int.reduceLE, Int.reduceLT, Int.reduceEq, Int.reduceNeg, Int.reduceAdd, Int.reduceSub, Nat.reduceAdd, Nat.reduceLeDiff, argFr, hok, AH.ext_nil, strOp, List.cons.injEq, false_and, and_false, or_self, or_false, false_or, true_or, or_true, hlen, hw', hc, resK, atE, h1, h2, h3, h4, h5, h6, h7, h8, h9, i1, i2, i3, i4, i5, i6, i7, i8, i9, j1, Int.natCast_zero, Int.natCast_one, Int.cast_ofNat_Int, nat2, nat3]
  · have hlen := encEs_len x.kids
    have hq : kS l x = .err x.pos 1 := by rw [kS_eq]; exact kOp_want (by rw [kSs_len]; exact hw)
    rw [C_XS' E_check_Kind _ _ rfl]
    rcases op_cases x.op with e | e | e | e | e | e | e | e | e | e | e | e | e | e | e | e | e | e | e | ⟨h1, h2, h3, h4, h5, h6, h7, h8, h9, i1, i2, i3, i4, i5, i6, i7, i8, i9, j1⟩
    · rw [e] at hw ⊢
      have hw' : ((x.kids.length : Int) = 0) = False := by simp only [eq_iff_iff, iff_false]; intro h; exact hw (by show _ = 0; omega)
      simp (maxDischargeDepth := 9) only [go_sem, ↓reduceIte, reduceCtorEq, Nat.reduceEqDiff, Int.reduceLE, Int.reduceLT, Int.reduceEq, Int.reduceNeg, Int.reduceAdd, Int.reduceSub, Nat.reduceAdd, Nat.reduceLeDiff, argFr, hok, AH.ext_nil, strOp, List.cons.injEq, false_and, and_false, or_self, or_false, false_or, true_or, or_true, hlen, hw', hq, resK, chkAt_c hok, atE]
    · rw [e] at hw ⊢
      have hw' : ((x.kids.length : Int) = 0) = False := by simp only [eq_iff_iff, iff_false]; intro h; exact hw (by show _ = 0; omega)
      simp (maxDischargeDepth := 9) only [go_sem, ↓reduceIte, reduceCtorEq, Nat.reduceEqDiff, Int.reduceLE, Int.reduceLT, Int.reduceEq, Int.reduceNeg, Int.reduceAdd, Int.reduceSub, Nat.reduceAdd, Nat.reduceLeDiff, argFr, hok, AH.ext_nil, strOp, List.cons.injEq, false_and, and_false, or_self, or_false, false_or, true_or, or_true, hlen, hw', hq, resK, chkAt_c hok, atE]
    · rw [e] at hw ⊢
      have hw' : ((x.kids.length : Int) = 0) = False := by simp only [eq_iff_iff, iff_false]; intro h; exact hw (by show _ = 0; omega)
      simp (maxDischargeDepth := 9) only [go_sem, ↓reduceIte, reduceCtorEq, Nat.reduceEqDiff, Int.reduceLE, Int.reduceLT, Int.reduceEq, Int.reduceNeg, Int.reduceAdd, Int.reduceSub, Nat.reduceAdd, Nat.reduceLeDiff, argFr, hok, AH.ext_nil, strOp, List.cons.injEq, false_and, and_false, or_self, or_false, false_or, true_or, or_true, hlen, hw', hq, resK, chkAt_c hok, atE]
    · rw [e] at hw ⊢
      have hw' : ((x.kids.length : Int) = 0) = False := by simp only [eq_iff_iff, iff_false]; intro h; exact hw (by show _ = 0; omega)
      simp (maxDischargeDepth := 9) only [go_sem, ↓reduceIte, reduceCtorEq, Nat.reduceEqDiff, Int.reduceLE, Int.reduceLT, Int.reduceEq, Int.reduceNeg, Int.reduceAdd, Int.reduceSub, Nat.reduceAdd, Nat.reduceLeDiff, argFr, hok, AH.ext_nil, strOp, List.cons.injEq, false_and, and_false, or_self, or_false, false_or, true_or, or_true, hlen, hw', hq, resK, chkAt_c hok, atE]
    · rw [e] at hw ⊢
      have hw' : ((x.kids.length : Int) = 1) = False := by simp only [eq_iff_iff, iff_false]; intro h; exact hw (by show _ = 1; omega)
      simp (maxDischargeDepth := 9) only [go_sem, ↓reduceIte, reduceCtorEq, Nat.reduceEqDiff, Int.reduceLE, Int.reduceLT, Int.reduceEq, Int.reduceNeg, Int.reduceAdd, Int.reduceSub, Nat.reduceAdd, Nat.reduceLeDiff, argFr, hok, AH.ext_nil, strOp, List.cons.injEq, false_and, and_false, or_self, or_false, false_or, true_or, or_true, hlen, hw', hq, resK, chkAt_c hok, atE]
    · rw [e] at hw ⊢
      have hw' : ((x.kids.length : Int) = 1) = False := by simp only [eq_iff_iff, iff_false]; intro h; exact hw (by show _ = 1; omega)
      simp (maxDischargeDepth := 9) only [go_sem, ↓reduceIte, reduceCtorEq, Nat.reduceEqDiff, Int.reduceLE, Int.reduceLT, Int.reduceEq, Int.reduceNeg, Int.reduceAdd, Int.reduceSub, Nat.reduceAdd, Nat.reduceLeDiff, argFr, hok, AH.ext_nil, strOp, List.cons.injEq, false_and, and_false, or_self, or_false, false_or, true_or, or_true, hlen, hw', hq, resK, chkAt_c hok, atE]
    · rw [e] at hw ⊢
      have hw' : ((x.kids.length : Int) = 2) = False := by simp only [eq_iff_iff, iff_false]; intro h; exact hw (by show _ = 2; omega)
      simp (maxDischargeDepth := 9) only [go_sem, ↓reduceIte, reduceCtorEq, Nat.reduceEqDiff, Int.reduceLE, Int.reduceLT, Int.reduceEq, Int.reduceNeg, Int.reduceAdd, Int.reduceSub, Nat.reduceAdd, Nat.reduceLeDiff, argFr, hok, AH.ext_nil, strOp, List.cons.injEq, false_and, and_false, or_self, or_false, false_or, true_or, or_true, hlen, hw', hq, resK, chkAt_c hok, atE]
    · rw [e] at hw ⊢
      have hw' : ((x.kids.length : Int) = 2) = False := by simp only [eq_iff_iff, iff_false]; intro h; exact hw (by show _ = 2; omega)
      simp (maxDischargeDepth := 9) only [go_sem, ↓reduceIte, reduceCtorEq, Nat.reduceEqDiff, Int.reduceLE, Int.reduceLT, Int.reduceEq, Int.reduceNeg, Int.reduceAdd, Int.reduceSub, Nat.reduceAdd, Nat.reduceLeDiff, argFr, hok, AH.ext_nil, strOp, List.cons.injEq, false_and, and_false, or_self, or_false, false_or, true_or, or_true, hlen, hw', hq, resK, chkAt_c hok, atE]
    · rw [e] at hw ⊢
      have hw' : ((x.kids.length : Int) = 2) = False := by simp only [eq_iff_iff, iff_false]; intro h; exact hw (by show _ = 2; omega)
      simp (maxDischargeDepth := 9) only [go_sem, ↓reduceIte, reduceCtorEq, Nat.reduceEqDiff, Int.reduceLE, Int.reduceLT, Int.reduceEq, Int.reduceNeg, Int.reduceAdd, Int.reduceSub, Nat.reduceAdd, Nat.reduceLeDiff, argFr, hok, AH.ext_nil, strOp, List.cons.injEq, false_and, and_false, or_self, or_false, false_or, true_or, or_true, hlen, hw', hq, resK, chkAt_c hok, atE]
    · rw [e] at hw ⊢
      have hw' : ((x.kids.length : Int) = 2) = False := by simp only [eq_iff_iff, iff_false]; intro h; exact hw (by show _ = 2; omega)
      simp (maxDischargeDepth := 9) only [go_sem, ↓reduceIte, reduceCtorEq, Nat.reduceEqDiff, Int.reduceLE, Int.reduceLT, Int.reduceEq, Int.reduceNeg, Int.reduceAdd, Int.reduceSub, Nat.reduceAdd, Nat.reduceLeDiff, argFr, hok, AH.ext_nil, strOp, List.cons.injEq, false_and, and_false, or_self, or_false, false_or, true_or, or_true, hlen, hw', hq, resK, chkAt_c hok, atE]
    · rw [e] at hw ⊢
      have hw' : ((x.kids.length : Int) = 2) = False := by simp only [eq_iff_iff, iff_false]; intro h; exact hw (by show _ = 2; omega)
      simp (maxDischargeDepth := 9) only [go_sem, ↓reduceIte, reduceCtorEq, Nat.reduceEqDiff, Int.reduceLE, Int.reduceLT, Int.reduceEq, Int.reduceNeg, Int.reduceAdd, Int.reduceSub, Nat.reduceAdd, Nat.reduceLeDiff, argFr, hok, AH.ext_nil, strOp, List.cons.injEq, false_and, and_false, or_self, or_false, false_or, true_or, or_true, hlen, hw', hq, resK, chkAt_c hok, atE]
    · rw [e] at hw ⊢
      have hw' : ((x.kids.length : Int) = 2) = False := by simp only [eq_iff_iff, iff_false]; intro h; exact hw (by show _ = 2; omega)
      simp (maxDischargeDepth := 9) only [go_sem, ↓reduceIte, reduceCtorEq, Nat.reduceEqDiff, Int.reduceLE, Int.reduceLT, Int.reduceEq, Int.reduceNeg, Int.reduceAdd, Int.reduceSub, Nat.reduceAdd, Nat.reduceLeDiff, argFr, hok, AH.ext_nil, strOp, List.cons.injEq, false_and, and_false, or_self, or_false, false_or, true_or, or_true, hlen, hw', hq, resK, chkAt_c hok, atE]
    · rw [e] at hw ⊢
      have hw' : ((x.kids.length : Int) = 2) = False := by simp only [eq_iff_iff, iff_false]; intro h; exact hw (by show _ = 2; omega)
      simp (maxDischargeDepth := 9) only [go_sem, ↓reduceIte, reduceCtorEq, Nat.reduceEqDiff, Int.reduceLE, Int.reduceLT, Int.reduceEq, Int.reduceNeg, Int.reduceAdd, Int.reduceSub, Nat.reduceAdd, Nat.reduceLeDiff, argFr, hok, AH.ext_nil, strOp, List.cons.injEq, false_and, and_false, or_self, or_false, false_or, true_or, or_true, hlen, hw', hq, resK, chkAt_c hok, atE]
    · rw [e] at hw ⊢
      have hw' : ((x.kids.length : Int) = 2) = False := by simp only [eq_iff_iff, iff_false]; intro h; exact hw (by show _ = 2; omega)
      simp (maxDischargeDepth := 9) only [go_sem, ↓reduceIte, reduceCtorEq, Nat.reduceEqDiff, Int.reduceLE, Int.reduceLT, Int.reduceEq, Int.reduceNeg, Int.reduceAdd, Int.reduceSub, Nat.reduceAdd, Nat.reduceLeDiff, argFr, hok, AH.ext_nil, strOp, List.cons.injEq, false_and, and_false, or_self, or_false, false_or, true_or, or_true, hlen, hw', hq, resK, chkAt_c hok, atE]
    · rw [e] at hw ⊢
      have hw' : ((x.kids.length : Int) = 2) = False := by simp only [eq_iff_iff, iff_false]; intro h; exact hw (by show _ = 2; omega)
      simp (maxDischargeDepth := 9) only [go_sem, ↓reduceIte, reduceCtorEq, Nat.reduceEqDiff, Int.reduceLE, Int.reduceLT, Int.reduceEq, Int.reduceNeg, Int.reduceAdd, Int.reduceSub, Nat.reduceAdd, Nat.reduceLeDiff, argFr, hok, AH.ext_nil, strOp, List.cons.injEq, false_and, and_false, or_self, or_false, false_or, true_or, or_true, hlen, hw', hq, resK, chkAt_c hok, atE]
    · rw [e] at hw ⊢
      have hw' : ((x.kids.length : Int) = 2) = False := by simp only [eq_iff_iff, iff_false]; intro h; exact hw (by show _ = 2; omega)
      simp (maxDischargeDepth := 9) only [go_sem, ↓reduceIte, reduceCtorEq, Nat.reduceEqDiff, Int.reduceLE, Int.reduceLT, Int.reduceEq, Int.reduceNeg, Int.reduceAdd, Int.reduceSub, Nat.reduceAdd, Nat.reduceLeDiff, argFr, hok, AH.ext_nil, strOp, List.cons.injEq, false_and, and_false, or_self, or_false, false_or, true_or, or_true, hlen, hw', hq, resK, chkAt_c hok, atE]
    · rw [e] at hw ⊢
      have hw' : ((x.kids.length : Int) = 2) = False := by simp only [eq_iff_iff, iff_false]; intro h; exact hw (by show _ = 2; omega)
      simp (maxDischargeDepth := 9) only [go_sem, ↓reduceIte, reduceCtorEq, Nat.reduceEqDiff, Int.reduceLE, Int.reduceLT, Int.reduceEq, Int.reduceNeg, Int.reduceAdd, Int.reduceSub, Nat.reduceAdd, Nat.reduceLeDiff, argFr, hok, AH.ext_nil, strOp, List.cons.injEq, false_and, and_false, or_self, or_false, false_or, true_or, or_true, hlen, hw', hq, resK, chkAt_c hok, atE]
    · rw [e] at hw ⊢
      have hw' : ((x.kids.length : Int) = 2) = False := by simp only [eq_iff_iff, iff_false]; intro h; exact hw (by show _ = 2; omega)
      simp (maxDischargeDepth := 9) only [go_sem, ↓reduceIte, reduceCtorEq, Nat.reduceEqDiff, Int.reduceLE, Int.reduceLT, Int.reduceEq, Int.reduceNeg, Int.reduceAdd, Int.reduceSub, Nat.reduceAdd, Nat.reduceLeDiff, argFr, hok, AH.ext_nil, strOp, List.cons.injEq, false_and, and_false, or_self, or_false, false_or, true_or, or_true, hlen, hw', hq, resK, chkAt_c hok, atE]
    · rw [e] at hw ⊢
      have hw' : ((x.kids.length : Int) = 3) = False := by simp only [eq_iff_iff, iff_false]; intro h; exact hw (by show _ = 3; omega)
      simp (maxDischargeDepth := 9) only [go_sem, ↓reduceIte, reduceCtorEq, Nat.reduceEqDiff, Int.reduceLE, Int.reduceLT, Int.reduceEq, Int.reduceNeg, Int.reduceAdd, Int.reduceSub, Nat.reduceAdd, Nat.reduceLeDiff, argFr, hok, AH.ext_nil, strOp, List.cons.injEq, false_and, and_false, or_self, or_false, false_or, true_or, or_true, hlen, hw', hq, resK, chkAt_c hok, atE]
    · have hwn : wantN x.op = 2 := by simp [wantN, *]
      have hw' : ((x.kids.length : Int) = 2) = False := by simp only [eq_iff_iff, iff_false]; omega
      simp (maxDischargeDepth := 9) only [go_sem, ↓reduceIte, reduceCtorEq, Nat.reduceEqDiff, Int.reduceLE, Int.reduceLT, Int.reduceEq, Int.reduceNeg, Int.reduceAdd, Int.reduceSub, Nat.reduceAdd, Nat.reduceLeDiff, argFr, hok, AH.ext_nil, strOp, List.cons.injEq, false_and, and_false, or_self, or_false, false_or, true_or, or_true, hlen, hw', hq, resK, chkAt_c hok, atE, h1, h2, h3, h4, h5, h6, h7, h8, h9, i1, i2, i3, i4, i5, i6, i7, i8, i9, j1]
end Go.Proofs.YtfahpmlckobpmaaGreatDoor.Pi
