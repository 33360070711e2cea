/-
  The reader of expressions (layer 5), 2: all of it.
-/
import Derived.Test.YtfahpmlckobpmaaGreatDoorExprA
set_option linter.unusedSimpArgs false
set_option linter.unusedVariables false
set_option linter.unusedSectionVars false
namespace Go.Proofs.YtfahpmlckobpmaaGreatDoor.Pi
open Go

namespace St
variable {L D i j a : Nat} {T : List (List AV)} {g : AH} (s : St L D T i j g a)
include s
theorem peek (l : List (Option ABlk)) : C EE K_scan_Reader_Peek [.ptr i 0 0] (g.ext l []) = some (.agg [.int .i64 (tkK T a), .str (tkS T a), .int .i64 (tkP T a)], g.ext l []) := peek_c (s.ext l).ok s.hT (s.ext l).hi s.ha
theorem setExt (l : List (Option ABlk)) (b : ABlk) : (g.ext l []).set i b = (g.set i b).ext l [] := AH.set_ext_old rfl (AH.lt_of_get s.hi) _
theorem take (hk : tkK T a ≠ 0) (l : List (Option ABlk)) : C EE K_scan_Reader_Take [.ptr i 0 0] (g.ext l []) = some (.agg [.int .i64 (tkK T a), .str (tkS T a), .int .i64 (tkP T a)], (g.set i (rd T (a + 1))).ext l []) := by
  rw [take_c (s.ext l).ok s.hT (s.ext l).hi s.ha hk s.hal, s.setExt]
theorem is (t : List Nat) (l : List (Option ABlk)) : C EE K_scan_Reader_Is [.ptr i 0 0, .str t] (g.ext l []) = some (.bool (isT T a t), g.ext l []) := is_c (s.ext l).ok s.hT (s.ext l).hi s.ha t
theorem skip {t : List Nat} (h : isT T a t = true) (l : List (Option ABlk)) : C EE K_scan_Reader_Skip [.ptr i 0 0, .str t] (g.ext l []) = some (.bool true, (g.set i (rd T (a + 1))).ext l []) := by
  rw [skip_c (s.ext l).ok s.hT (s.ext l).hi s.ha t h s.hal, s.setExt]
theorem skip0 {t : List Nat} (h : isT T a t = false) (l : List (Option ABlk)) : C EE K_scan_Reader_Skip [.ptr i 0 0, .str t] (g.ext l []) = some (.bool false, g.ext l []) := skip0_c (s.ext l).ok s.hT (s.ext l).hi s.ha t h
theorem want {t : List Nat} (h : isT T a t = true) (l : List (Option ABlk)) : C EE K_scan_Reader_Want [.ptr i 0 0, .str t] (g.ext l []) = some (.nili, (g.set i (rd T (a + 1))).ext l []) := by
  rw [want_c (s.ext l).ok s.hT (s.ext l).hi s.ha t h s.hal, s.setExt]
theorem want0 {t : List Nat} (h : isT T a t = false) (l : List (Option ABlk)) : C EE K_scan_Reader_Want [.ptr i 0 0, .str t] (g.ext l []) = some (atE (tkP T a) 20, g.ext l []) := want0_c (s.ext l).ok s.hT (s.ext l).hi s.ha t h
theorem number (h : tkK T a = 2) (l : List (Option ABlk)) : ∃ n : Int, I64 n ∧ C EE K_scan_Reader_Number [.ptr i 0 0] (g.ext l []) = some (.tup [.int .i64 n, .nili], (g.set i (rd T (a + 1))).ext l []) := by
  obtain ⟨n, hn, h1⟩ := number_c (s.ext l).ok s.hT (s.ext l).hi s.ha h s.hal (by have := s.hL; omega)
  exact ⟨n, hn, by rw [h1, s.setExt]⟩
theorem deep (l : Nat) (e : List (Option ABlk)) : C EE K_expr_parser_deep [.ptr j 0 0, .int .i64 (l : Int)] (g.ext e []) = some (if l > D then atE (tkP T a) 21 else .nili, g.ext e []) := deep_c (s.ext e) l
theorem next {t : List Nat} (h : isT T a t = true) : a + 1 < T.length := isT_next s.hT s.ha h
theorem kne {t : List Nat} (h : isT T a t = true) : tkK T a ≠ 0 := by simp only [isT, decide_eq_true_eq] at h; omega
end St

theorem encZ : encE zeroX = [.str [], .str [], .int .i64 0, .vs [] .shared, .int .i64 0] := rfl

section
variable {L D i j : Nat} {T : List (List AV)} {l : Nat}

theorem prefix_c {K : Nat} (hk : l + 1 ≤ D → PartC L D T i j K [.int .i64 ((l + 1 : Nat) : Int)]) {a : Nat} {g : AH} (s : St L D T i j g a) {t o : List Nat} (hs : isT T a t = true) (ho : o.length ≤ 10) (hl : l ≤ 64) :
    Rt EE K_expr_parser_prefix [.ptr j 0 0, .str o, .int .i64 (l : Int), .fn K [.ptr j 0 0] []] g (PP L T i a g) := by
  refine Rt_fn E_expr_parser_prefix rfl ?_
  generalize hN : g.len = N
  have hi : i < N := hN ▸ AH.lt_of_get s.hi
  have hj : j < N := hN ▸ AH.lt_of_get s.hj
  have s1 := s.set (s.next hs)
  have hw : IntKind.i64.wrap ((l : Int) + 1) = ((l + 1 : Nat) : Int) := by rw [w64s] <;> omega
  by_cases hd : l + 1 > D
  · unfold PP atE
    exact ⟨_, by simp (maxDischargeDepth := 9) only [go_sem, ↓reduceIte, reduceCtorEq, Nat.reduceEqDiff, Int.reduceLE, Int.reduceLT, Int.reduceEq, Int.reduceNeg, Int.reduceAdd, Int.reduceSub, Nat.reduceAdd, Nat.reduceLeDiff, argFr, hN, hi, hj, s.hj, s.take (s.kne hs), hw, s1.deep, hd, s.ok, atE]; rfl, a + 1, by omega, s.next hs, rfl, .inr ⟨_, _, rfl⟩⟩
  · simp (maxDischargeDepth := 9) only [go_sem, ↓reduceIte, reduceCtorEq, Nat.reduceEqDiff, Int.reduceLE, Int.reduceLT, Int.reduceEq, Int.reduceNeg, Int.reduceAdd, Int.reduceSub, Nat.reduceAdd, Nat.reduceLeDiff, argFr, hN, hi, hj, s.hj, s.take (s.kne hs), hw, s1.deep, hd, s.ok]
    refine W_call (hk (by omega) _ _ (s1.ext _)) ?_
    rintro v g' ⟨b, hab, hbT, rfl, ⟨x, hx, rfl⟩ | ⟨p, n, rfl⟩⟩
    · simp only [encE_eq]
      exact ⟨_, by simp (maxDischargeDepth := 9) only [go_sem, ↓reduceIte, reduceCtorEq, Nat.reduceEqDiff, Int.reduceLE, Int.reduceLT, Int.reduceEq, Int.reduceNeg, Int.reduceAdd, Int.reduceSub, Nat.reduceAdd, Nat.reduceLeDiff, hN, hi, s.ok]; rfl, b, by omega, hbT, rfl, .inl ⟨.mk o [] 0 [x] (tkP T a), ⟨by simp, by omega, by simp, by unfold I64; omega, hx, trivial⟩, by simp only [encE, encEs, encE_eq x]⟩⟩
    · unfold atE
      exact ⟨_, by simp (maxDischargeDepth := 9) only [go_sem, ↓reduceIte, reduceCtorEq, Nat.reduceEqDiff, Int.reduceLE, Int.reduceLT, Int.reduceEq, Int.reduceNeg, Int.reduceAdd, Int.reduceSub, Nat.reduceAdd, Nat.reduceLeDiff, encZ, hN, hi, s.ok]; rfl, b, by omega, hbT, rfl, .inr ⟨p, n, rfl⟩⟩

theorem part_c {t : Int} (h3 : t = 3 → PartC L D T i j K_expr_parser_chain [.int .i64 4, .int .i64 (l : Int)]) (h4 : t = 4 → PartC L D T i j K_expr_parser_not [.int .i64 (l : Int)])
    (h7 : t = 7 → PartC L D T i j K_expr_parser_chain [.int .i64 8, .int .i64 (l : Int)]) (h8 : PartC L D T i j K_expr_parser_minus [.int .i64 (l : Int)]) :
    PartC L D T i j K_expr_parser_part [.int .i64 t, .int .i64 (l : Int)] := by
  intro g a s
  refine Rt_fn E_expr_parser_part rfl ?_
  generalize hN : g.len = N
  have hi : i < N := hN ▸ AH.lt_of_get s.hi
  by_cases c3 : t = 3
  · simp (maxDischargeDepth := 9) only [go_sem, ↓reduceIte, reduceCtorEq, Nat.reduceEqDiff, Int.reduceLE, Int.reduceLT, Int.reduceEq, Int.reduceNeg, Int.reduceAdd, Int.reduceSub, Nat.reduceAdd, Nat.reduceLeDiff, argFr, hN, c3]
    refine W_call (h3 c3 _ _ (s.ext _)) ?_
    rintro v g' ⟨b, hab, hbT, rfl, ⟨x, hx, rfl⟩ | ⟨p, n, rfl⟩⟩
    · simp only [encE_eq]
      exact ⟨_, by simp (maxDischargeDepth := 9) only [go_sem, ↓reduceIte, reduceCtorEq, Nat.reduceEqDiff, Int.reduceLE, Int.reduceLT, Int.reduceEq, Int.reduceNeg, Int.reduceAdd, Int.reduceSub, Nat.reduceAdd, Nat.reduceLeDiff, hN, hi, s.ok]; rfl, b, hab, hbT, rfl, .inl ⟨x, hx, by rw [encE_eq]⟩⟩
    · unfold atE
      exact ⟨_, by simp (maxDischargeDepth := 9) only [go_sem, ↓reduceIte, reduceCtorEq, Nat.reduceEqDiff, Int.reduceLE, Int.reduceLT, Int.reduceEq, Int.reduceNeg, Int.reduceAdd, Int.reduceSub, Nat.reduceAdd, Nat.reduceLeDiff, encZ, hN, hi, s.ok]; rfl, b, hab, hbT, rfl, .inr ⟨p, n, rfl⟩⟩
  · by_cases c4 : t = 4
    · simp (maxDischargeDepth := 9) only [go_sem, ↓reduceIte, reduceCtorEq, Nat.reduceEqDiff, Int.reduceLE, Int.reduceLT, Int.reduceEq, Int.reduceNeg, Int.reduceAdd, Int.reduceSub, Nat.reduceAdd, Nat.reduceLeDiff, argFr, hN, c4]
      refine W_call (h4 c4 _ _ (s.ext _)) ?_
      rintro v g' ⟨b, hab, hbT, rfl, ⟨x, hx, rfl⟩ | ⟨p, n, rfl⟩⟩
      · simp only [encE_eq]
        exact ⟨_, by simp (maxDischargeDepth := 9) only [go_sem, ↓reduceIte, reduceCtorEq, Nat.reduceEqDiff, Int.reduceLE, Int.reduceLT, Int.reduceEq, Int.reduceNeg, Int.reduceAdd, Int.reduceSub, Nat.reduceAdd, Nat.reduceLeDiff, hN, hi, s.ok]; rfl, b, hab, hbT, rfl, .inl ⟨x, hx, by rw [encE_eq]⟩⟩
      · unfold atE
        exact ⟨_, by simp (maxDischargeDepth := 9) only [go_sem, ↓reduceIte, reduceCtorEq, Nat.reduceEqDiff, Int.reduceLE, Int.reduceLT, Int.reduceEq, Int.reduceNeg, Int.reduceAdd, Int.reduceSub, Nat.reduceAdd, Nat.reduceLeDiff, encZ, hN, hi, s.ok]; rfl, b, hab, hbT, rfl, .inr ⟨p, n, rfl⟩⟩
    · by_cases c7 : t = 7
      · simp (maxDischargeDepth := 9) only [go_sem, ↓reduceIte, reduceCtorEq, Nat.reduceEqDiff, Int.reduceLE, Int.reduceLT, Int.reduceEq, Int.reduceNeg, Int.reduceAdd, Int.reduceSub, Nat.reduceAdd, Nat.reduceLeDiff, argFr, hN, c7]
        refine W_call (h7 c7 _ _ (s.ext _)) ?_
        rintro v g' ⟨b, hab, hbT, rfl, ⟨x, hx, rfl⟩ | ⟨p, n, rfl⟩⟩
        · simp only [encE_eq]
          exact ⟨_, by simp (maxDischargeDepth := 9) only [go_sem, ↓reduceIte, reduceCtorEq, Nat.reduceEqDiff, Int.reduceLE, Int.reduceLT, Int.reduceEq, Int.reduceNeg, Int.reduceAdd, Int.reduceSub, Nat.reduceAdd, Nat.reduceLeDiff, hN, hi, s.ok]; rfl, b, hab, hbT, rfl, .inl ⟨x, hx, by rw [encE_eq]⟩⟩
        · unfold atE
          exact ⟨_, by simp (maxDischargeDepth := 9) only [go_sem, ↓reduceIte, reduceCtorEq, Nat.reduceEqDiff, Int.reduceLE, Int.reduceLT, Int.reduceEq, Int.reduceNeg, Int.reduceAdd, Int.reduceSub, Nat.reduceAdd, Nat.reduceLeDiff, encZ, hN, hi, s.ok]; rfl, b, hab, hbT, rfl, .inr ⟨p, n, rfl⟩⟩
      · simp (maxDischargeDepth := 9) only [go_sem, ↓reduceIte, reduceCtorEq, Nat.reduceEqDiff, Int.reduceLE, Int.reduceLT, Int.reduceEq, Int.reduceNeg, Int.reduceAdd, Int.reduceSub, Nat.reduceAdd, Nat.reduceLeDiff, argFr, hN, c3, c4, c7]
        refine W_call (h8 _ _ (s.ext _)) ?_
        rintro v g' ⟨b, hab, hbT, rfl, ⟨x, hx, rfl⟩ | ⟨p, n, rfl⟩⟩
        · simp only [encE_eq]
          exact ⟨_, by simp (maxDischargeDepth := 9) only [go_sem, ↓reduceIte, reduceCtorEq, Nat.reduceEqDiff, Int.reduceLE, Int.reduceLT, Int.reduceEq, Int.reduceNeg, Int.reduceAdd, Int.reduceSub, Nat.reduceAdd, Nat.reduceLeDiff, hN, hi, s.ok]; rfl, b, hab, hbT, rfl, .inl ⟨x, hx, by rw [encE_eq]⟩⟩
        · unfold atE
          exact ⟨_, by simp (maxDischargeDepth := 9) only [go_sem, ↓reduceIte, reduceCtorEq, Nat.reduceEqDiff, Int.reduceLE, Int.reduceLT, Int.reduceEq, Int.reduceNeg, Int.reduceAdd, Int.reduceSub, Nat.reduceAdd, Nat.reduceLeDiff, encZ, hN, hi, s.ok]; rfl, b, hab, hbT, rfl, .inr ⟨p, n, rfl⟩⟩

theorem minus_c (hl : l ≤ 64) (hk : l + 1 ≤ D → PartC L D T i j K_expr_parser_minus [.int .i64 ((l + 1 : Nat) : Int)]) (hc : PartC L D T i j K_expr_parser_cond [.int .i64 ((l + 1 : Nat) : Int)]) :
    PartC L D T i j K_expr_parser_minus [.int .i64 (l : Int)] := by
  intro g a s
  refine Rt_fn E_expr_parser_minus rfl ?_
  generalize hN : g.len = N
  have hi : i < N := hN ▸ AH.lt_of_get s.hi
  have hj : j < N := hN ▸ AH.lt_of_get s.hj
  have hw : IntKind.i64.wrap ((l : Int) + 1) = ((l + 1 : Nat) : Int) := by rw [w64s] <;> omega
  cases h1 : isT T a [45] with
  | true =>
    simp (maxDischargeDepth := 9) only [go_sem, ↓reduceIte, reduceCtorEq, Nat.reduceEqDiff, Int.reduceLE, Int.reduceLT, Int.reduceEq, Int.reduceNeg, Int.reduceAdd, Int.reduceSub, Nat.reduceAdd, Nat.reduceLeDiff, argFr, hN, hi, hj, s.hj, s.is, h1]
    refine W_call (prefix_c hk (s.ext _) h1 (by simp) hl) ?_
    rintro v g' ⟨b, hab, hbT, rfl, ⟨x, hx, rfl⟩ | ⟨p, n, rfl⟩⟩
    · simp only [encE_eq]
      exact ⟨_, by simp (maxDischargeDepth := 9) only [go_sem, ↓reduceIte, reduceCtorEq, Nat.reduceEqDiff, Int.reduceLE, Int.reduceLT, Int.reduceEq, Int.reduceNeg, Int.reduceAdd, Int.reduceSub, Nat.reduceAdd, Nat.reduceLeDiff, hN, hi, s.ok]; rfl, b, hab, hbT, rfl, .inl ⟨x, hx, by rw [encE_eq]⟩⟩
    · unfold atE
      exact ⟨_, by simp (maxDischargeDepth := 9) only [go_sem, ↓reduceIte, reduceCtorEq, Nat.reduceEqDiff, Int.reduceLE, Int.reduceLT, Int.reduceEq, Int.reduceNeg, Int.reduceAdd, Int.reduceSub, Nat.reduceAdd, Nat.reduceLeDiff, encZ, hN, hi, s.ok]; rfl, b, hab, hbT, rfl, .inr ⟨p, n, rfl⟩⟩
  | false =>
    by_cases k1 : tkK T a = 1
    · have kne : tkK T a ≠ 0 := by omega
      have ha1 := (s.hT.2.2 a s.ha).2.2 kne
      have htk := s.take kne
      have hpk := s.peek
      rw [k1] at htk hpk
      have hts := (s.hT.2.2 a s.ha).2.1
      by_cases b1 : tkS T a = [116, 114, 117, 101]
      · exact ⟨_, by simp (maxDischargeDepth := 9) only [go_sem, ↓reduceIte, reduceCtorEq, Nat.reduceEqDiff, Int.reduceLE, Int.reduceLT, Int.reduceEq, Int.reduceNeg, Int.reduceAdd, Int.reduceSub, Nat.reduceAdd, Nat.reduceLeDiff, argFr, hN, hi, hj, s.hj, s.is, h1, hpk, htk, strOp, b1, s.ok]; rfl, a + 1, by omega, ha1, rfl, .inl ⟨.mk [116, 114, 117, 101] [] 0 [] (tkP T a), ⟨by simp, by simp, by simp, by unfold I64; omega, trivial⟩, rfl⟩⟩
      · by_cases b2 : tkS T a = [102, 97, 108, 115, 101]
        · exact ⟨_, by simp (maxDischargeDepth := 9) only [go_sem, ↓reduceIte, reduceCtorEq, Nat.reduceEqDiff, Int.reduceLE, Int.reduceLT, Int.reduceEq, Int.reduceNeg, Int.reduceAdd, Int.reduceSub, Nat.reduceAdd, Nat.reduceLeDiff, argFr, hN, hi, hj, s.hj, s.is, h1, hpk, htk, strOp, b2, s.ok, List.cons.injEq]; rfl, a + 1, by omega, ha1, rfl, .inl ⟨.mk [102, 97, 108, 115, 101] [] 0 [] (tkP T a), ⟨by simp, by simp, by simp, by unfold I64; omega, trivial⟩, rfl⟩⟩
        · exact ⟨_, by simp (maxDischargeDepth := 9) only [go_sem, ↓reduceIte, reduceCtorEq, Nat.reduceEqDiff, Int.reduceLE, Int.reduceLT, Int.reduceEq, Int.reduceNeg, Int.reduceAdd, Int.reduceSub, Nat.reduceAdd, Nat.reduceLeDiff, argFr, hN, hi, hj, s.hj, s.is, h1, hpk, htk, strOp, b1, b2, s.ok]; rfl, a + 1, by omega, ha1, rfl, .inl ⟨.mk [110, 97, 109, 101] (tkS T a) 0 [] (tkP T a), ⟨by simp, by simp, hts, by unfold I64; omega, trivial⟩, rfl⟩⟩
    · by_cases k2 : tkK T a = 2
      · have kne : tkK T a ≠ 0 := by omega
        have ha1 := (s.hT.2.2 a s.ha).2.2 kne
        have hpk := s.peek
        obtain ⟨n, hn, hnum⟩ := s.number k2 [some (.rows 5 [[.str [], .str [], .int .i64 0, .vs [] .exact, .int .i64 0]]), some (.rows 3 [[.int .i64 2, .str (tkS T a), .int .i64 (tkP T a)]])]
        rw [k2] at hpk
        have h21 : ((2 : Int) = 1) = False := by simp
        exact ⟨_, by simp (maxDischargeDepth := 9) only [go_sem, ↓reduceIte, reduceCtorEq, Nat.reduceEqDiff, Int.reduceLE, Int.reduceLT, Int.reduceEq, Int.reduceNeg, Int.reduceAdd, Int.reduceSub, Nat.reduceAdd, Nat.reduceLeDiff, argFr, hN, hi, hj, s.hj, s.is, h1, hpk, hnum, h21, s.ok]; rfl, a + 1, by omega, ha1, rfl, .inl ⟨.mk [110, 117, 109] [] n [] (tkP T a), ⟨by simp, by simp, by simp, hn, trivial⟩, rfl⟩⟩
      · cases h2 : isT T a [40] with
        | false =>
          unfold PP atE
          exact ⟨_, by simp (maxDischargeDepth := 9) only [go_sem, ↓reduceIte, reduceCtorEq, Nat.reduceEqDiff, Int.reduceLE, Int.reduceLT, Int.reduceEq, Int.reduceNeg, Int.reduceAdd, Int.reduceSub, Nat.reduceAdd, Nat.reduceLeDiff, argFr, hN, hi, hj, s.hj, s.is, h1, s.peek, k1, k2, s.want0 h2, s.ok, atE]; rfl, a, Nat.le_refl _, s.ha, (AH.set_same s.hi).symm, .inr ⟨_, _, rfl⟩⟩
        | true =>
          have s1 := s.set (s.next h2)
          simp (maxDischargeDepth := 9) only [go_sem, ↓reduceIte, reduceCtorEq, Nat.reduceEqDiff, Int.reduceLE, Int.reduceLT, Int.reduceEq, Int.reduceNeg, Int.reduceAdd, Int.reduceSub, Nat.reduceAdd, Nat.reduceLeDiff, argFr, hN, hi, hj, s.hj, s.is, h1, s.peek, k1, k2, s.want h2, s.ok, hw]
          refine W_call (hc _ _ (s1.ext _)) ?_
          rintro v g' ⟨b, hab, hbT, rfl, ⟨x, hx, rfl⟩ | ⟨p, n, rfl⟩⟩
          · have s2 := s1.set hbT
            simp only [AH.set_set] at s2
            simp only [encE_eq]
            cases h3 : isT T b [41] with
            | true =>
              exact ⟨_, by simp (maxDischargeDepth := 9) only [go_sem, ↓reduceIte, reduceCtorEq, Nat.reduceEqDiff, Int.reduceLE, Int.reduceLT, Int.reduceEq, Int.reduceNeg, Int.reduceAdd, Int.reduceSub, Nat.reduceAdd, Nat.reduceLeDiff, hN, hi, hj, s1.hj, s2.hj, s2.want h3, s.ok]; rfl, b + 1, by omega, s2.next h3, rfl, .inl ⟨.mk x.op x.nm x.n x.kids (tkP T a), by rw [← Xp.eta x] at hx; exact hx, rfl⟩⟩
            | false =>
              exact ⟨_, by simp (maxDischargeDepth := 9) only [go_sem, ↓reduceIte, reduceCtorEq, Nat.reduceEqDiff, Int.reduceLE, Int.reduceLT, Int.reduceEq, Int.reduceNeg, Int.reduceAdd, Int.reduceSub, Nat.reduceAdd, Nat.reduceLeDiff, hN, hi, hj, s1.hj, s2.hj, s2.want0 h3, s.ok, atE]; rfl, b, by omega, hbT, rfl, .inr ⟨_, _, rfl⟩⟩
          · unfold atE
            exact ⟨_, by simp (maxDischargeDepth := 9) only [go_sem, ↓reduceIte, reduceCtorEq, Nat.reduceEqDiff, Int.reduceLE, Int.reduceLT, Int.reduceEq, Int.reduceNeg, Int.reduceAdd, Int.reduceSub, Nat.reduceAdd, Nat.reduceLeDiff, encZ, hN, hi, s.ok]; rfl, b, by omega, hbT, rfl, .inr ⟨p, n, rfl⟩⟩
end
end Go.Proofs.YtfahpmlckobpmaaGreatDoor.Pi
/-
  The reader of expressions (layer 5), 3: comparisons, what follows, conditions; all together.
-/
namespace Go.Proofs.YtfahpmlckobpmaaGreatDoor.Pi
open Go

def cmps : List AV := [.str [61], .str [33, 61], .str [60], .str [60, 61], .str [62], .str [62, 61]]
theorem cmps_get {k : Nat} (hk : k < 6) : ∃ o : List Nat, (cmps.drop (k * 1)).head? = some (.str o) ∧ o.length ≤ 2 := by
  match k, hk with
  | 0, _ | 1, _ | 2, _ | 3, _ | 4, _ | 5, _ => exact ⟨_, rfl, by simp⟩

section
variable {L D i j : Nat} {T : List (List AV)} {l : Nat}

theorem not_loop (hc : PartC L D T i j K_expr_parser_chain [.int .i64 7, .int .i64 (l : Int)]) {N a : Nat} {h : AH} (hN : h.len = N) (s : St L D T i j h a) {x : Xp} (hx : okX L x) : ∀ (d k : Nat), 6 - k ≤ d → k ≤ 6 →
    ∃ r, LP EE L_expr_parser_not_0 [0, 1, 4, 6, 34, 35] [(0, .ptr j 0 0), (1, .int .i64 (l : Int)), (4, .ptr (N + 0) 0 0), (6, .ptr (N + 1) 0 0), (34, .agg cmps), (35, .int .i64 (k : Int))] (h.ext [some (.rows 5 [[.str [], .str [], .int .i64 0, .vs [] .exact, .int .i64 0]]), some (.rows 5 [encE x])] []) = some r ∧
      ((r.1 = .exit 0 ∧ fget r.2.1 4 = .ptr (N + 0) 0 0 ∧ fget r.2.1 6 = .ptr (N + 1) 0 0 ∧ r.2.2 = h.ext [some (.rows 5 [[.str [], .str [], .int .i64 0, .vs [] .exact, .int .i64 0]]), some (.rows 5 [encE x])] []) ∨
       (r.1 = .ret ∧ ∃ b G', a ≤ b ∧ b < T.length ∧ fget r.2.1 4 = .ptr (N + 0) 0 0 ∧ ((∃ x, okX L x ∧ fget r.2.1 5 = .nili ∧ r.2.2 = (h.set i (rd T b)).ext (some (.rows 5 [encE x]) :: G') []) ∨ (∃ p n, fget r.2.1 5 = atE p n ∧ r.2.2 = (h.set i (rd T b)).ext (some (.rows 5 [[.str [], .str [], .int .i64 0, .vs [] .exact, .int .i64 0]]) :: G') [])))) := by
  have hi : i < N := hN ▸ AH.lt_of_get s.hi
  have hj : j < N := hN ▸ AH.lt_of_get s.hj
  intro d
  induction d with
  | zero =>
    intro k hd hk
    have hlt : ¬ ((k : Int) < 6) := by omega
    exact ⟨_, by rw [L_expr_parser_not_0_eq]; simp (maxDischargeDepth := 9) only [go_sem, ↓reduceIte, reduceCtorEq, Nat.reduceEqDiff, Int.reduceLE, Int.reduceLT, Int.reduceEq, Int.reduceNeg, Int.reduceAdd, Int.reduceSub, Nat.reduceAdd, Nat.reduceLeDiff, hlt]; rfl, .inl ⟨rfl, rfl, rfl, rfl⟩⟩
  | succ d ih =>
    intro k hd hk
    by_cases hlt' : k < 6
    · have hlt : ((k : Int) < 6) := by omega
      have h0 : (0 : Int) ≤ k := by omega
      obtain ⟨o, hm, ho⟩ := cmps_get hlt'
      have hw : IntKind.i64.wrap ((k : Int) + 1) = ((k + 1 : Nat) : Int) := by rw [w64s] <;> omega
      have h6 : ((6 : Nat) : Int) = 6 := rfl
      cases hs : isT T a o with
      | false =>
        obtain ⟨r, r1, r2⟩ := ih (k + 1) (by omega) (by omega)
        refine ⟨r, ?_, r2⟩
        rw [L_expr_parser_not_0_eq]
        simp (maxDischargeDepth := 9) only [go_sem, ↓reduceIte, reduceCtorEq, Nat.reduceEqDiff, Int.reduceLE, Int.reduceLT, Int.reduceEq, Int.reduceNeg, Int.reduceAdd, Int.reduceSub, Nat.reduceAdd, Nat.reduceLeDiff, hlt, h0, h6, Int.toNat_natCast, hm, hj, s.hj, hN, s.skip0 hs, hw, r1]
      | true =>
        have s1 := s.set (s.next hs)
        rw [L_expr_parser_not_0_eq]
        simp (maxDischargeDepth := 9) only [go_sem, ↓reduceIte, reduceCtorEq, Nat.reduceEqDiff, Int.reduceLE, Int.reduceLT, Int.reduceEq, Int.reduceNeg, Int.reduceAdd, Int.reduceSub, Nat.reduceAdd, Nat.reduceLeDiff, hlt, h0, h6, Int.toNat_natCast, hm, hj, s.hj, hN, s.skip hs]
        refine W_callL (hc _ _ (s1.ext _)) ?_
        rintro v g' ⟨b, hab, hbT, rfl, ⟨y, hy, rfl⟩ | ⟨p, n, rfl⟩⟩
        · simp only [encE_eq]
          exact ⟨_, by simp (maxDischargeDepth := 9) only [go_sem, ↓reduceIte, reduceCtorEq, Nat.reduceEqDiff, Int.reduceLE, Int.reduceLT, Int.reduceEq, Int.reduceNeg, Int.reduceAdd, Int.reduceSub, Nat.reduceAdd, Nat.reduceLeDiff, hN, hi, s.ok, encE_eq, two_c]; rfl, .inr ⟨rfl, b, _, by omega, hbT, rfl, .inl ⟨.mk o [] 0 [x, y] x.pos, ⟨by simp, by omega, by simp, by unfold I64; omega, hx, hy, trivial⟩, rfl, rfl⟩⟩⟩
        · unfold atE
          exact ⟨_, by simp (maxDischargeDepth := 9) only [go_sem, ↓reduceIte, reduceCtorEq, Nat.reduceEqDiff, Int.reduceLE, Int.reduceLT, Int.reduceEq, Int.reduceNeg, Int.reduceAdd, Int.reduceSub, Nat.reduceAdd, Nat.reduceLeDiff, encZ, hN, hi, s.ok]; rfl, .inr ⟨rfl, b, _, by omega, hbT, rfl, .inr ⟨p, n, rfl, rfl⟩⟩⟩
    · have hlt : ¬ ((k : Int) < 6) := by omega
      exact ⟨_, by rw [L_expr_parser_not_0_eq]; simp (maxDischargeDepth := 9) only [go_sem, ↓reduceIte, reduceCtorEq, Nat.reduceEqDiff, Int.reduceLE, Int.reduceLT, Int.reduceEq, Int.reduceNeg, Int.reduceAdd, Int.reduceSub, Nat.reduceAdd, Nat.reduceLeDiff, hlt]; rfl, .inl ⟨rfl, rfl, rfl, rfl⟩⟩

theorem not_c (hl : l ≤ 64) (hk : l + 1 ≤ D → PartC L D T i j K_expr_parser_not [.int .i64 ((l + 1 : Nat) : Int)]) (hc : PartC L D T i j K_expr_parser_chain [.int .i64 7, .int .i64 (l : Int)]) :
    PartC L D T i j K_expr_parser_not [.int .i64 (l : Int)] := by
  intro g a s
  refine Rt_fn E_expr_parser_not rfl ?_
  generalize hN : g.len = N
  have hi : i < N := hN ▸ AH.lt_of_get s.hi
  have hj : j < N := hN ▸ AH.lt_of_get s.hj
  cases h1 : isT T a [33] with
  | true =>
    simp (maxDischargeDepth := 9) only [go_sem, ↓reduceIte, reduceCtorEq, Nat.reduceEqDiff, Int.reduceLE, Int.reduceLT, Int.reduceEq, Int.reduceNeg, Int.reduceAdd, Int.reduceSub, Nat.reduceAdd, Nat.reduceLeDiff, argFr, hN, hi, hj, s.hj, s.is, h1]
    refine W_call (prefix_c hk (s.ext _) h1 (by simp) hl) ?_
    rintro v g' ⟨b, hab, hbT, rfl, ⟨x, hx, rfl⟩ | ⟨p, n, rfl⟩⟩
    · simp only [encE_eq]
      exact ⟨_, by simp (maxDischargeDepth := 9) only [go_sem, ↓reduceIte, reduceCtorEq, Nat.reduceEqDiff, Int.reduceLE, Int.reduceLT, Int.reduceEq, Int.reduceNeg, Int.reduceAdd, Int.reduceSub, Nat.reduceAdd, Nat.reduceLeDiff, hN, hi, s.ok]; rfl, b, hab, hbT, rfl, .inl ⟨x, hx, by rw [encE_eq]⟩⟩
    · unfold atE
      exact ⟨_, by simp (maxDischargeDepth := 9) only [go_sem, ↓reduceIte, reduceCtorEq, Nat.reduceEqDiff, Int.reduceLE, Int.reduceLT, Int.reduceEq, Int.reduceNeg, Int.reduceAdd, Int.reduceSub, Nat.reduceAdd, Nat.reduceLeDiff, encZ, hN, hi, s.ok]; rfl, b, hab, hbT, rfl, .inr ⟨p, n, rfl⟩⟩
  | false =>
    simp (maxDischargeDepth := 9) only [go_sem, ↓reduceIte, reduceCtorEq, Nat.reduceEqDiff, Int.reduceLE, Int.reduceLT, Int.reduceEq, Int.reduceNeg, Int.reduceAdd, Int.reduceSub, Nat.reduceAdd, Nat.reduceLeDiff, argFr, hN, hi, hj, s.hj, s.is, h1]
    refine W_call (hc _ _ (s.ext _)) ?_
    rintro v g' ⟨b, hab, hbT, rfl, ⟨x, hx, rfl⟩ | ⟨p, n, rfl⟩⟩
    · have s' := s.set hbT
      have hlp := not_loop hc (N := N) (by rw [AH.len_set]; exact hN) s' hx 6 0 (by omega) (by omega)
      simp only [encE_eq, cmps, Int.natCast_zero, Int.ofNat_zero] at hlp
      simp (maxDischargeDepth := 9) only [go_sem, ↓reduceIte, reduceCtorEq, Nat.reduceEqDiff, Int.reduceLE, Int.reduceLT, Int.reduceEq, Int.reduceNeg, Int.reduceAdd, Int.reduceSub, Nat.reduceAdd, Nat.reduceLeDiff, hN, hi, encE_eq]
      refine W_loop hlp ?_
      rintro e fr h' (⟨rfl, f4, f6, rfl⟩ | ⟨rfl, c, G', hbc, hcT, f4, ⟨y, hy, f5, rfl⟩ | ⟨p, n, f5, rfl⟩⟩)
      · exact ⟨_, by simp (maxDischargeDepth := 9) only [go_sem, ↓reduceIte, reduceCtorEq, Nat.reduceEqDiff, Int.reduceLE, Int.reduceLT, Int.reduceEq, Int.reduceNeg, Int.reduceAdd, Int.reduceSub, Nat.reduceAdd, Nat.reduceLeDiff, hN, f4, f6, s.ok]; rfl, b, hab, hbT, rfl, .inl ⟨x, hx, by rw [encE_eq]⟩⟩
      · simp only [AH.set_set]
        exact ⟨_, by simp (maxDischargeDepth := 9) only [go_sem, ↓reduceIte, reduceCtorEq, Nat.reduceEqDiff, Int.reduceLE, Int.reduceLT, Int.reduceEq, Int.reduceNeg, Int.reduceAdd, Int.reduceSub, Nat.reduceAdd, Nat.reduceLeDiff, hN, f4, f5, s.ok]; rfl, c, by omega, hcT, rfl, .inl ⟨y, hy, by rw [encE_eq]⟩⟩
      · simp only [AH.set_set]
        unfold atE at f5
        exact ⟨_, by simp (maxDischargeDepth := 9) only [go_sem, ↓reduceIte, reduceCtorEq, Nat.reduceEqDiff, Int.reduceLE, Int.reduceLT, Int.reduceEq, Int.reduceNeg, Int.reduceAdd, Int.reduceSub, Nat.reduceAdd, Nat.reduceLeDiff, hN, f4, f5, s.ok]; rfl, c, by omega, hcT, rfl, .inr ⟨p, n, rfl⟩⟩
    · unfold atE
      exact ⟨_, by simp (maxDischargeDepth := 9) only [go_sem, ↓reduceIte, reduceCtorEq, Nat.reduceEqDiff, Int.reduceLE, Int.reduceLT, Int.reduceEq, Int.reduceNeg, Int.reduceAdd, Int.reduceSub, Nat.reduceAdd, Nat.reduceLeDiff, encZ, hN, hi, s.ok]; rfl, b, hab, hbT, rfl, .inr ⟨p, n, rfl⟩⟩

theorem imply_c (hl : l ≤ 64) (hk : l + 1 ≤ D → PartC L D T i j K_expr_parser_imply [.int .i64 ((l + 1 : Nat) : Int)]) (hc : PartC L D T i j K_expr_parser_chain [.int .i64 3, .int .i64 (l : Int)]) :
    PartC L D T i j K_expr_parser_imply [.int .i64 (l : Int)] := by
  intro g a s
  refine Rt_fn E_expr_parser_imply rfl ?_
  generalize hN : g.len = N
  have hi : i < N := hN ▸ AH.lt_of_get s.hi
  have hj : j < N := hN ▸ AH.lt_of_get s.hj
  have hw : IntKind.i64.wrap ((l : Int) + 1) = ((l + 1 : Nat) : Int) := by rw [w64s] <;> omega
  simp (maxDischargeDepth := 9) only [go_sem, ↓reduceIte, reduceCtorEq, Nat.reduceEqDiff, Int.reduceLE, Int.reduceLT, Int.reduceEq, Int.reduceNeg, Int.reduceAdd, Int.reduceSub, Nat.reduceAdd, Nat.reduceLeDiff, argFr, hN, hi, hj, s.hj]
  refine W_call (hc _ _ (s.ext _)) ?_
  rintro v g' ⟨b, hab, hbT, rfl, ⟨x, hx, rfl⟩ | ⟨p, n, rfl⟩⟩
  · have s' := s.set hbT
    simp only [encE_eq]
    cases hs : isT T b [61, 62] with
    | false => exact ⟨_, by simp (maxDischargeDepth := 9) only [go_sem, ↓reduceIte, reduceCtorEq, Nat.reduceEqDiff, Int.reduceLE, Int.reduceLT, Int.reduceEq, Int.reduceNeg, Int.reduceAdd, Int.reduceSub, Nat.reduceAdd, Nat.reduceLeDiff, hN, hi, hj, s'.hj, s'.skip0 hs, s.ok]; rfl, b, hab, hbT, rfl, .inl ⟨x, hx, by rw [encE_eq]⟩⟩
    | true =>
      have s1 := s'.set (s'.next hs)
      simp only [AH.set_set] at s1
      by_cases hd : l + 1 > D
      · exact ⟨_, by simp (maxDischargeDepth := 9) only [go_sem, ↓reduceIte, reduceCtorEq, Nat.reduceEqDiff, Int.reduceLE, Int.reduceLT, Int.reduceEq, Int.reduceNeg, Int.reduceAdd, Int.reduceSub, Nat.reduceAdd, Nat.reduceLeDiff, hN, hi, hj, s'.hj, s'.skip hs, s1.hj, hw, s1.deep, hd, atE, s.ok]; rfl, b + 1, by omega, s'.next hs, rfl, .inr ⟨_, _, rfl⟩⟩
      · simp (maxDischargeDepth := 9) only [go_sem, ↓reduceIte, reduceCtorEq, Nat.reduceEqDiff, Int.reduceLE, Int.reduceLT, Int.reduceEq, Int.reduceNeg, Int.reduceAdd, Int.reduceSub, Nat.reduceAdd, Nat.reduceLeDiff, hN, hi, hj, s'.hj, s'.skip hs, s1.hj, hw, s1.deep, hd, s.ok]
        refine W_call (hk (by omega) _ _ (s1.ext _)) ?_
        rintro v g' ⟨c, hbc, hcT, rfl, ⟨y, hy, rfl⟩ | ⟨p, n, rfl⟩⟩
        · simp only [encE_eq]
          exact ⟨_, by simp (maxDischargeDepth := 9) only [go_sem, ↓reduceIte, reduceCtorEq, Nat.reduceEqDiff, Int.reduceLE, Int.reduceLT, Int.reduceEq, Int.reduceNeg, Int.reduceAdd, Int.reduceSub, Nat.reduceAdd, Nat.reduceLeDiff, hN, hi, s.ok, two_c]; rfl, c, by omega, hcT, rfl, .inl ⟨.mk [61, 62] [] 0 [x, y] x.pos, ⟨by simp, by simp, by simp, by unfold I64; omega, hx, hy, trivial⟩, rfl⟩⟩
        · unfold atE
          exact ⟨_, by simp (maxDischargeDepth := 9) only [go_sem, ↓reduceIte, reduceCtorEq, Nat.reduceEqDiff, Int.reduceLE, Int.reduceLT, Int.reduceEq, Int.reduceNeg, Int.reduceAdd, Int.reduceSub, Nat.reduceAdd, Nat.reduceLeDiff, encZ, hN, hi, s.ok]; rfl, c, by omega, hcT, rfl, .inr ⟨p, n, rfl⟩⟩
  · unfold atE
    exact ⟨_, by simp (maxDischargeDepth := 9) only [go_sem, ↓reduceIte, reduceCtorEq, Nat.reduceEqDiff, Int.reduceLE, Int.reduceLT, Int.reduceEq, Int.reduceNeg, Int.reduceAdd, Int.reduceSub, Nat.reduceAdd, Nat.reduceLeDiff, encZ, hN, hi, s.ok]; rfl, b, hab, hbT, rfl, .inr ⟨p, n, rfl⟩⟩

theorem cond_deep (h : l > D) (hl : l ≤ 65) : PartC L D T i j K_expr_parser_cond [.int .i64 (l : Int)] := by
  intro g a s
  refine Rt_fn E_expr_parser_cond rfl ?_
  generalize hN : g.len = N
  have hi : i < N := hN ▸ AH.lt_of_get s.hi
  have hj : j < N := hN ▸ AH.lt_of_get s.hj
  have hlt : ((l : Int) > D) := by omega
  exact ⟨_, by simp (maxDischargeDepth := 9) only [go_sem, ↓reduceIte, reduceCtorEq, Nat.reduceEqDiff, Int.reduceLE, Int.reduceLT, Int.reduceEq, Int.reduceNeg, Int.reduceAdd, Int.reduceSub, Nat.reduceAdd, Nat.reduceLeDiff, argFr, hN, hi, hj, s.hj, hlt, s.peek, s.ok]; rfl, a, Nat.le_refl _, s.ha, (AH.set_same s.hi).symm, .inr ⟨_, _, rfl⟩⟩

theorem cond_c (hl : l ≤ D) (hk : PartC L D T i j K_expr_parser_cond [.int .i64 ((l + 1 : Nat) : Int)]) (hc : PartC L D T i j K_expr_parser_imply [.int .i64 (l : Int)]) :
    PartC L D T i j K_expr_parser_cond [.int .i64 (l : Int)] := by
  intro g a s
  refine Rt_fn E_expr_parser_cond rfl ?_
  generalize hN : g.len = N
  have hi : i < N := hN ▸ AH.lt_of_get s.hi
  have hj : j < N := hN ▸ AH.lt_of_get s.hj
  have hD := s.hD
  have hw : IntKind.i64.wrap ((l : Int) + 1) = ((l + 1 : Nat) : Int) := by rw [w64s] <;> omega
  have hlt : ¬ ((l : Int) > D) := by omega
  simp (maxDischargeDepth := 9) only [go_sem, ↓reduceIte, reduceCtorEq, Nat.reduceEqDiff, Int.reduceLE, Int.reduceLT, Int.reduceEq, Int.reduceNeg, Int.reduceAdd, Int.reduceSub, Nat.reduceAdd, Nat.reduceLeDiff, argFr, hN, hi, hj, s.hj, hlt]
  refine W_call (hc _ _ (s.ext _)) ?_
  rintro v g' ⟨b, hab, hbT, rfl, ⟨x, hx, rfl⟩ | ⟨p, n, rfl⟩⟩
  · have s' := s.set hbT
    simp only [encE_eq]
    cases hs : isT T b [63] with
    | false => exact ⟨_, by simp (maxDischargeDepth := 9) only [go_sem, ↓reduceIte, reduceCtorEq, Nat.reduceEqDiff, Int.reduceLE, Int.reduceLT, Int.reduceEq, Int.reduceNeg, Int.reduceAdd, Int.reduceSub, Nat.reduceAdd, Nat.reduceLeDiff, hN, hi, hj, s'.hj, s'.skip0 hs, s.ok]; rfl, b, hab, hbT, rfl, .inl ⟨x, hx, by rw [encE_eq]⟩⟩
    | true =>
      have s1 := s'.set (s'.next hs)
      simp only [AH.set_set] at s1
      simp (maxDischargeDepth := 9) only [go_sem, ↓reduceIte, reduceCtorEq, Nat.reduceEqDiff, Int.reduceLE, Int.reduceLT, Int.reduceEq, Int.reduceNeg, Int.reduceAdd, Int.reduceSub, Nat.reduceAdd, Nat.reduceLeDiff, hN, hi, hj, s'.hj, s'.skip hs, s1.hj, hw, s.ok]
      refine W_call (hk _ _ (s1.ext _)) ?_
      rintro v g' ⟨c, hbc, hcT, rfl, ⟨y, hy, rfl⟩ | ⟨p, n, rfl⟩⟩
      · have s2 := s1.set hcT
        simp only [AH.set_set] at s2
        simp only [encE_eq]
        cases hs2 : isT T c [58] with
        | false => exact ⟨_, by simp (maxDischargeDepth := 9) only [go_sem, ↓reduceIte, reduceCtorEq, Nat.reduceEqDiff, Int.reduceLE, Int.reduceLT, Int.reduceEq, Int.reduceNeg, Int.reduceAdd, Int.reduceSub, Nat.reduceAdd, Nat.reduceLeDiff, hN, hi, hj, s2.hj, s2.want0 hs2, s.ok, atE]; rfl, c, by omega, hcT, rfl, .inr ⟨_, _, rfl⟩⟩
        | true =>
          have s3 := s2.set (s2.next hs2)
          simp only [AH.set_set] at s3
          simp (maxDischargeDepth := 9) only [go_sem, ↓reduceIte, reduceCtorEq, Nat.reduceEqDiff, Int.reduceLE, Int.reduceLT, Int.reduceEq, Int.reduceNeg, Int.reduceAdd, Int.reduceSub, Nat.reduceAdd, Nat.reduceLeDiff, hN, hi, hj, s2.hj, s2.want hs2, s3.hj, hw, s.ok]
          refine W_call (hk _ _ (s3.ext _)) ?_
          rintro v g' ⟨d, hcd, hdT, rfl, ⟨z, hz, rfl⟩ | ⟨p, n, rfl⟩⟩
          · simp only [encE_eq]
            exact ⟨_, by simp (maxDischargeDepth := 9) only [go_sem, ↓reduceIte, reduceCtorEq, Nat.reduceEqDiff, Int.reduceLE, Int.reduceLT, Int.reduceEq, Int.reduceNeg, Int.reduceAdd, Int.reduceSub, Nat.reduceAdd, Nat.reduceLeDiff, hN, hi, s.ok]; rfl, d, by omega, hdT, rfl, .inl ⟨.mk [63] [] 0 [x, y, z] x.pos, ⟨by simp, by simp, by simp, by unfold I64; omega, hx, hy, hz, trivial⟩, by simp only [encE, encEs, encE_eq x, encE_eq y, encE_eq z]⟩⟩
          · unfold atE
            exact ⟨_, by simp (maxDischargeDepth := 9) only [go_sem, ↓reduceIte, reduceCtorEq, Nat.reduceEqDiff, Int.reduceLE, Int.reduceLT, Int.reduceEq, Int.reduceNeg, Int.reduceAdd, Int.reduceSub, Nat.reduceAdd, Nat.reduceLeDiff, encZ, hN, hi, s.ok]; rfl, d, by omega, hdT, rfl, .inr ⟨p, n, rfl⟩⟩
      · unfold atE
        exact ⟨_, by simp (maxDischargeDepth := 9) only [go_sem, ↓reduceIte, reduceCtorEq, Nat.reduceEqDiff, Int.reduceLE, Int.reduceLT, Int.reduceEq, Int.reduceNeg, Int.reduceAdd, Int.reduceSub, Nat.reduceAdd, Nat.reduceLeDiff, encZ, hN, hi, s.ok]; rfl, c, by omega, hcT, rfl, .inr ⟨p, n, rfl⟩⟩
  · unfold atE
    exact ⟨_, by simp (maxDischargeDepth := 9) only [go_sem, ↓reduceIte, reduceCtorEq, Nat.reduceEqDiff, Int.reduceLE, Int.reduceLT, Int.reduceEq, Int.reduceNeg, Int.reduceAdd, Int.reduceSub, Nat.reduceAdd, Nat.reduceLeDiff, encZ, hN, hi, s.ok]; rfl, b, hab, hbT, rfl, .inr ⟨p, n, rfl⟩⟩
end

/-- all levels -/
theorem levels {L D i j : Nat} {T : List (List AV)} (hD : D ≤ 64) : ∀ (m l : Nat), l + m = D + 1 →
    PartC L D T i j K_expr_parser_cond [.int .i64 (l : Int)] ∧ (l ≤ D → PartC L D T i j K_expr_parser_imply [.int .i64 (l : Int)] ∧ PartC L D T i j K_expr_parser_not [.int .i64 (l : Int)] ∧ PartC L D T i j K_expr_parser_minus [.int .i64 (l : Int)]) := by
  intro m
  induction m with
  | zero => intro l h; exact ⟨cond_deep (by omega) (by omega), fun h' => by omega⟩
  | succ m ih =>
    intro l h
    obtain ⟨i1, i2⟩ := ih (l + 1) (by omega)
    have hl : l ≤ 64 := by omega
    have minus := minus_c hl (fun h => (i2 h).2.2) i1
    have p8 : PartC L D T i j K_expr_parser_part [.int .i64 8, .int .i64 (l : Int)] := part_c (fun h => by simp at h) (fun h => by simp at h) (fun h => by simp at h) minus
    have c8 := chain_c p8
    have p7 : PartC L D T i j K_expr_parser_part [.int .i64 7, .int .i64 (l : Int)] := part_c (fun h => by simp at h) (fun h => by simp at h) (fun _ => c8) minus
    have c7 := chain_c p7
    have nt := not_c hl (fun h => (i2 h).2.1) c7
    have p4 : PartC L D T i j K_expr_parser_part [.int .i64 4, .int .i64 (l : Int)] := part_c (fun h => by simp at h) (fun _ => nt) (fun h => by simp at h) minus
    have c4 := chain_c p4
    have p3 : PartC L D T i j K_expr_parser_part [.int .i64 3, .int .i64 (l : Int)] := part_c (fun _ => c4) (fun h => by simp at h) (fun h => by simp at h) minus
    have c3 := chain_c p3
    have im := imply_c hl (fun h => (i2 h).1) c3
    exact ⟨cond_c (by omega) i1 im, fun _ => ⟨im, nt, minus⟩⟩
end Go.Proofs.YtfahpmlckobpmaaGreatDoor.Pi
/-
  The reader of expressions (layer 5), 4: of a reader; of a text.
-/
namespace Go.Proofs.YtfahpmlckobpmaaGreatDoor.Pi
open Go

section
variable {L i a : Nat} {T : List (List AV)} {g : AH}

theorem p20_c (hok : g.ok) (hT : TK L T) (hg : g.get i = some (rd T a)) (ha : a < T.length) : C EE K_expr_p20 [.ptr i 0 0] g = some (atE (tkP T a) 20, g) := by
  rw [C_XS' E_expr_p20 _ _ rfl]
  simp (maxDischargeDepth := 9) only [go_sem, ↓reduceIte, reduceCtorEq, Nat.reduceEqDiff, Int.reduceLE, Int.reduceLT, Int.reduceEq, Int.reduceNeg, Int.reduceAdd, Int.reduceSub, Nat.reduceAdd, Nat.reduceLeDiff, argFr, hok, AH.ext_nil, peek_c hok hT hg ha, atE]

theorem read_c (hok : g.ok) (hT : TK L T) (hL : L ≤ 100000) (hg : g.get i = some (rd T a)) (ha : a < T.length) {D : Nat} (h1 : 1 ≤ D) (hD : D ≤ 64) : Rt EE K_expr_Read [.ptr i 0 0, .int .i64 (D : Int)] g (PP L T i a g) := by
  refine Rt_fn E_expr_Read rfl ?_
  generalize hN : g.len = N
  have hi : i < N := hN ▸ AH.lt_of_get hg
  have c1 : ¬ ((D : Int) < 1) := by omega
  have c2 : ¬ ((D : Int) > 64) := by omega
  have s : St L D T i (N + 1) (g.ext [some (.rows 5 [[.str [], .str [], .int .i64 0, .vs [] .exact, .int .i64 0]]), some (.rows 2 [[.ptr i 0 0, .int .i64 (D : Int)]])] []) a :=
    ⟨AH.ok_ext0 hok, hT, by rw [AH.get_ext_old hN hi]; exact hg, by rw [AH.get_ext hN]; rfl, by omega, ha, hL, hD⟩
  simp (maxDischargeDepth := 9) only [go_sem, ↓reduceIte, reduceCtorEq, Nat.reduceEqDiff, Int.reduceLE, Int.reduceLT, Int.reduceEq, Int.reduceNeg, Int.reduceAdd, Int.reduceSub, Nat.reduceAdd, Nat.reduceLeDiff, argFr, hN, hi, c1, c2, hok]
  refine W_call ((levels hD D 1 (by omega)).1 _ _ s) ?_
  rintro v g' ⟨b, hab, hbT, rfl, ⟨x, hx, rfl⟩ | ⟨p, n, rfl⟩⟩
  · simp only [encE_eq]
    exact ⟨_, by simp (maxDischargeDepth := 9) only [go_sem, ↓reduceIte, reduceCtorEq, Nat.reduceEqDiff, Int.reduceLE, Int.reduceLT, Int.reduceEq, Int.reduceNeg, Int.reduceAdd, Int.reduceSub, Nat.reduceAdd, Nat.reduceLeDiff, hN, hi, hok]; rfl, b, hab, hbT, rfl, .inl ⟨x, hx, by rw [encE_eq]⟩⟩
  · unfold atE
    exact ⟨_, by simp (maxDischargeDepth := 9) only [go_sem, ↓reduceIte, reduceCtorEq, Nat.reduceEqDiff, Int.reduceLE, Int.reduceLT, Int.reduceEq, Int.reduceNeg, Int.reduceAdd, Int.reduceSub, Nat.reduceAdd, Nat.reduceLeDiff, encZ, hN, hi, hok]; rfl, b, hab, hbT, rfl, .inr ⟨p, n, rfl⟩⟩
end

/-- what the reading of a text tells -/
def ParseP (L : Nat) (h : AH) (v : AV) (h' : AH) : Prop :=
  h' = h ∧ ((∃ x, okX L x ∧ v = .tup [.agg (encE x), .nili]) ∨ (∃ e, v = .tup [.agg (encE zeroX), e] ∧ ((∃ p n, e = atE p n) ∨ ∃ n, e = noE n)))

theorem parse_c {h : AH} (hok : h.ok) {s : List Nat} (hb : bytesL s) (hl : s.length ≤ 100000) {D : Nat} (h1 : 1 ≤ D) (hD : D ≤ 64) : Rt EE K_expr_Parse [.str s, .int .i64 (D : Int)] h (ParseP s.length h) := by
  refine Rt_fn E_expr_Parse rfl ?_
  generalize hN : h.len = N
  have c1 : ¬ ((D : Int) < 1) := by omega
  have c2 : ¬ ((D : Int) > 64) := by omega
  simp (maxDischargeDepth := 9) only [go_sem, ↓reduceIte, reduceCtorEq, Nat.reduceEqDiff, Int.reduceLE, Int.reduceLT, Int.reduceEq, Int.reduceNeg, Int.reduceAdd, Int.reduceSub, Nat.reduceAdd, Nat.reduceLeDiff, argFr, hN, c1, c2, hok]
  refine W_call (new_c (AH.ok_ext0 hok) hb (by omega)) ?_
  rintro v g' (⟨T, rfl, rfl, hT⟩ | ⟨e, rfl, rfl, he⟩)
  · have hlen : (h.ext [some (ABlk.rows 5 [[AV.str [], AV.str [], AV.int .i64 0, AV.vs [] .exact, AV.int .i64 0]])] []).len = N + 1 := by rw [AH.len_ext, hN]; rfl
    rw [hlen]
    have hee : (h.ext [some (ABlk.rows 5 [[AV.str [], AV.str [], AV.int .i64 0, AV.vs [] .exact, AV.int .i64 0]])] []).ext [some (rd T 0)] [] = h.ext [some (ABlk.rows 5 [[AV.str [], AV.str [], AV.int .i64 0, AV.vs [] .exact, AV.int .i64 0]]), some (rd T 0)] [] := by simp [AH.ext]
    rw [hee]
    have hT0 : 0 < T.length := List.length_pos_iff.2 hT.1
    simp (maxDischargeDepth := 9) only [go_sem, ↓reduceIte, reduceCtorEq, Nat.reduceEqDiff, Int.reduceLE, Int.reduceLT, Int.reduceEq, Int.reduceNeg, Int.reduceAdd, Int.reduceSub, Nat.reduceAdd, Nat.reduceLeDiff, hN, hok]
    refine W_call (read_c (a := 0) (i := N + 1) (AH.ok_ext0 hok) hT hl (by rw [AH.get_ext hN]; rfl) hT0 h1 hD) ?_
    rintro v g' ⟨b, hab, hbT, rfl, ⟨x, hx, rfl⟩ | ⟨p, n, rfl⟩⟩
    · simp only [encE_eq]
      have hp := fun l => peek_c (g := h.ext (l :: some (rd T b) :: [some (.rows 5 [[.str x.op, .str x.nm, .int .i64 x.n, .vs (encEs x.kids) .shared, .int .i64 x.pos]])]) []) (i := N + 1) (AH.ok_ext0 hok) hT (by rw [AH.get_ext hN]; rfl) hbT
      have hq := fun l => p20_c (g := h.ext (l :: some (rd T b) :: [some (.rows 5 [[.str x.op, .str x.nm, .int .i64 x.n, .vs (encEs x.kids) .shared, .int .i64 x.pos]])]) []) (i := N + 1) (AH.ok_ext0 hok) hT (by rw [AH.get_ext hN]; rfl) hbT
      by_cases hk : tkK T b = 0
      · exact ⟨_, by simp (maxDischargeDepth := 9) only [go_sem, ↓reduceIte, reduceCtorEq, Nat.reduceEqDiff, Int.reduceLE, Int.reduceLT, Int.reduceEq, Int.reduceNeg, Int.reduceAdd, Int.reduceSub, Nat.reduceAdd, Nat.reduceLeDiff, hN, hok, hp, hk]; rfl, rfl, .inl ⟨x, hx, by rw [encE_eq]⟩⟩
      · exact ⟨_, by simp (maxDischargeDepth := 9) only [go_sem, ↓reduceIte, reduceCtorEq, Nat.reduceEqDiff, Int.reduceLE, Int.reduceLT, Int.reduceEq, Int.reduceNeg, Int.reduceAdd, Int.reduceSub, Nat.reduceAdd, Nat.reduceLeDiff, hN, hok, hp, hk, hq, atE]; rfl, rfl, .inr ⟨_, rfl, .inl ⟨_, _, rfl⟩⟩⟩
    · unfold atE
      exact ⟨_, by simp (maxDischargeDepth := 9) only [go_sem, ↓reduceIte, reduceCtorEq, Nat.reduceEqDiff, Int.reduceLE, Int.reduceLT, Int.reduceEq, Int.reduceNeg, Int.reduceAdd, Int.reduceSub, Nat.reduceAdd, Nat.reduceLeDiff, encZ, hN, hok]; rfl, rfl, .inr ⟨_, rfl, .inl ⟨p, n, rfl⟩⟩⟩
  · rcases he with ⟨p, n, rfl⟩ | ⟨n, rfl⟩
    · unfold atE
      exact ⟨_, by simp (maxDischargeDepth := 9) only [go_sem, ↓reduceIte, reduceCtorEq, Nat.reduceEqDiff, Int.reduceLE, Int.reduceLT, Int.reduceEq, Int.reduceNeg, Int.reduceAdd, Int.reduceSub, Nat.reduceAdd, Nat.reduceLeDiff, hN, hok]; rfl, rfl, .inr ⟨_, rfl, .inl ⟨p, n, rfl⟩⟩⟩
    · unfold noE
      exact ⟨_, by simp (maxDischargeDepth := 9) only [go_sem, ↓reduceIte, reduceCtorEq, Nat.reduceEqDiff, Int.reduceLE, Int.reduceLT, Int.reduceEq, Int.reduceNeg, Int.reduceAdd, Int.reduceSub, Nat.reduceAdd, Nat.reduceLeDiff, hN, hok]; rfl, rfl, .inr ⟨_, rfl, .inr ⟨n, rfl⟩⟩⟩
end Go.Proofs.YtfahpmlckobpmaaGreatDoor.Pi
