/-
  Expressions as trees, and how they lie in abstract values.
-/
import Derived.Test.YtfahpmlckobpmaaGreatDoorScanB
set_option linter.unusedSimpArgs false
set_option linter.unusedVariables false
set_option linter.unusedSectionVars false
namespace Go.Proofs.YtfahpmlckobpmaaGreatDoor.Pi
open Go

inductive Xp where
  | mk (op nm : List Nat) (n : Int) (kids : List Xp) (pos : Int)
namespace Xp
def op : Xp → List Nat | mk o _ _ _ _ => o
def nm : Xp → List Nat | mk _ o _ _ _ => o
def n : Xp → Int | mk _ _ n _ _ => n
def kids : Xp → List Xp | mk _ _ _ k _ => k
def pos : Xp → Int | mk _ _ _ _ p => p
theorem op_mk (o m : List Nat) (k : Int) (l : List Xp) (p : Int) : (mk o m k l p).op = o := rfl
theorem nm_mk (o m : List Nat) (k : Int) (l : List Xp) (p : Int) : (mk o m k l p).nm = m := rfl
theorem n_mk (o m : List Nat) (k : Int) (l : List Xp) (p : Int) : (mk o m k l p).n = k := rfl
theorem kids_mk (o m : List Nat) (k : Int) (l : List Xp) (p : Int) : (mk o m k l p).kids = l := rfl
theorem pos_mk (o m : List Nat) (k : Int) (l : List Xp) (p : Int) : (mk o m k l p).pos = p := rfl
theorem eta (x : Xp) : mk x.op x.nm x.n x.kids x.pos = x := by cases x; rfl
end Xp
mutual
def encE : Xp → List AV
  | .mk op nm n kids pos => [.str op, .str nm, .int .i64 n, .vs (encEs kids) .shared, .int .i64 pos]
def encEs : List Xp → List (List AV)
  | [] => []
  | x :: r => encE x :: encEs r
end
theorem encE_eq (x : Xp) : encE x = [.str x.op, .str x.nm, .int .i64 x.n, .vs (encEs x.kids) .shared, .int .i64 x.pos] := by
  cases x; simp only [encE, Xp.op, Xp.nm, Xp.n, Xp.kids, Xp.pos]
theorem encEs_map : ∀ (l : List Xp), encEs l = l.map encE
  | [] => rfl
  | x :: r => by simp only [encEs, List.map_cons, encEs_map r]
theorem encE_len (x : Xp) : (encE x).length = 5 := by rw [encE_eq]; rfl
theorem encEs_len (l : List Xp) : (encEs l).length = l.length := by rw [encEs_map, List.length_map]
theorem encEs_z (l : List Xp) : ∀ r ∈ encEs l, r.length = 5 := by
  rw [encEs_map]; intro r hr
  obtain ⟨x, _, rfl⟩ := List.mem_map.1 hr
  exact encE_len x
theorem encEs_app (l m : List Xp) : encEs (l ++ m) = encEs l ++ encEs m := by simp only [encEs_map, List.map_append]
theorem encEs_get {l : List Xp} {i : Nat} (hi : i < l.length) : (encEs l)[i]? = some (encE l[i]) := by
  rw [encEs_map, List.getElem?_map, get_some hi]; rfl

def zeroX : Xp := .mk [] [] 0 [] 0

mutual
/-- its numbers fit, its texts are short -/
def okX (L : Nat) : Xp → Prop
  | .mk op nm n kids _ => kids.length ≤ 5 ∧ op.length ≤ L + 10 ∧ nm.length ≤ L ∧ I64 n ∧ okXs L kids
def okXs (L : Nat) : List Xp → Prop
  | [] => True
  | x :: r => okX L x ∧ okXs L r
end
theorem okXs_iff (L : Nat) : ∀ (l : List Xp), okXs L l ↔ ∀ x ∈ l, okX L x
  | [] => by simp [okXs]
  | x :: r => by simp [okXs, okXs_iff L r]

mutual
theorem okX_mono {L M : Nat} (hLM : L ≤ M) : ∀ {x : Xp}, okX L x → okX M x
  | .mk op nm n kids pos, h => ⟨h.1, by have := h.2.1; omega, by have := h.2.2.1; omega, h.2.2.2.1, okXs_mono hLM h.2.2.2.2⟩
theorem okXs_mono {L M : Nat} (hLM : L ≤ M) : ∀ {l : List Xp}, okXs L l → okXs M l
  | [], _ => trivial
  | x :: r, h => ⟨okX_mono hLM h.1, okXs_mono hLM h.2⟩
end
end Go.Proofs.YtfahpmlckobpmaaGreatDoor.Pi
/-
  The reader of expressions (layer 5): it ends, and tells an expression or an error.
-/
namespace Go.Proofs.YtfahpmlckobpmaaGreatDoor.Pi
open Go

theorem two_c {g : AH} (hok : g.ok) (o : List Nat) (x y : Xp) : C EE K_expr_two [.str o, .agg [.str x.op, .str x.nm, .int .i64 x.n, .vs (encEs x.kids) .shared, .int .i64 x.pos], .agg [.str y.op, .str y.nm, .int .i64 y.n, .vs (encEs y.kids) .shared, .int .i64 y.pos]] g =
    some (.agg [.str o, .str [], .int .i64 0, .vs (encEs [x, y]) .shared, .int .i64 x.pos], g) := by
  rw [C_XS' E_expr_two _ _ rfl]
  simp (maxDischargeDepth := 9) only [go_sem, ↓reduceIte, reduceCtorEq, Nat.reduceEqDiff, Int.reduceLE, Int.reduceLT, Int.reduceEq, Int.reduceNeg, Int.reduceAdd, Int.reduceSub, Nat.reduceAdd, Nat.reduceLeDiff, argFr, hok, encE_eq, encEs, Xp.op, Xp.nm, Xp.n, Xp.kids, Xp.pos]

/-- where the reading stands -/
structure St (L D : Nat) (T : List (List AV)) (i j : Nat) (g : AH) (a : Nat) : Prop where
  ok : g.ok
  hT : TK L T
  hi : g.get i = some (rd T a)
  hj : g.get j = some (.rows 2 [[.ptr i 0 0, .int .i64 (D : Int)]])
  ne : i ≠ j
  ha : a < T.length
  hL : L ≤ 100000
  hD : D ≤ 64
theorem St.hal {L D i j a : Nat} {T : List (List AV)} {g : AH} (s : St L D T i j g a) : T.length ≤ 1000000 := by have := s.hT.2.1; have := s.hL; omega
theorem St.set {L D i j a b : Nat} {T : List (List AV)} {g : AH} (s : St L D T i j g a) (hb : b < T.length) : St L D T i j (g.set i (rd T b)) b :=
  ⟨AH.ok_set s.ok _ _, s.hT, AH.get_set (AH.lt_of_get s.hi) _, by rw [AH.get_set_ne s.ne]; exact s.hj, s.ne, hb, s.hL, s.hD⟩
theorem St.ext {L D i j a : Nat} {T : List (List AV)} {g : AH} (s : St L D T i j g a) (l : List (Option ABlk)) : St L D T i j (g.ext l []) a :=
  ⟨AH.ok_ext0 s.ok, s.hT, by rw [AH.get_ext_old rfl (AH.lt_of_get s.hi)]; exact s.hi, by rw [AH.get_ext_old rfl (AH.lt_of_get s.hj)]; exact s.hj, s.ne, s.ha, s.hL, s.hD⟩

/-- what is told: an expression, or an error at a place; the reader stands further on -/
def PP (L : Nat) (T : List (List AV)) (i a : Nat) (g : AH) (v : AV) (g' : AH) : Prop :=
  ∃ b, a ≤ b ∧ b < T.length ∧ g' = g.set i (rd T b) ∧ ((∃ x, okX L x ∧ v = .tup [.agg (encE x), .nili]) ∨ (∃ p n, v = .tup [.agg (encE zeroX), atE p n]))

theorem PP.ext {L : Nat} {T : List (List AV)} {i a b : Nat} {g g' : AH} {v : AV} (h : PP L T i b g v g') (hab : a ≤ b) : PP L T i a g v g' := by
  obtain ⟨c, h1, h2, h3⟩ := h; exact ⟨c, by omega, h2, h3⟩

section
variable {L D i j a : Nat} {T : List (List AV)} {g : AH} (s : St L D T i j g a)
include s

theorem deep_c (l : Nat) : C EE K_expr_parser_deep [.ptr j 0 0, .int .i64 (l : Int)] g = some (if l > D then atE (tkP T a) 21 else .nili, g) := by
  rw [C_XS' E_expr_parser_deep _ _ rfl]
  generalize hN : g.len = N
  have hi : i < N := hN ▸ AH.lt_of_get s.hi
  have hj : j < N := hN ▸ AH.lt_of_get s.hj
  have hp := peek_c (s.ext []).ok s.hT (s.ext []).hi s.ha
  by_cases hl : l > D
  · have hl' : ((l : Int) > D) := by omega
    simp (maxDischargeDepth := 9) only [go_sem, ↓reduceIte, reduceCtorEq, Nat.reduceEqDiff, Int.reduceLE, Int.reduceLT, Int.reduceEq, Int.reduceNeg, Int.reduceAdd, Int.reduceSub, Nat.reduceAdd, Nat.reduceLeDiff, argFr, hN, s.ok, hj, s.hj, hl, hl', hp, atE]
  · have hl' : ¬ ((l : Int) > D) := by omega
    simp (maxDischargeDepth := 9) only [go_sem, ↓reduceIte, reduceCtorEq, Nat.reduceEqDiff, Int.reduceLE, Int.reduceLT, Int.reduceEq, Int.reduceNeg, Int.reduceAdd, Int.reduceSub, Nat.reduceAdd, Nat.reduceLeDiff, argFr, hN, s.ok, hj, s.hj, hl, hl']

/-- a sign of a chain: none, and it stands still; or one, and it goes on -/
theorem sign_c (t : Int) : Rt EE K_expr_parser_sign [.ptr j 0 0, .int .i64 t] g fun v g' => (v = .str [] ∧ g' = g) ∨ ∃ o, o ≠ [] ∧ o.length = 1 ∧ v = .str o ∧ a + 1 < T.length ∧ g' = g.set i (rd T (a + 1)) := by
  refine Rt_fn E_expr_parser_sign rfl ?_
  generalize hN : g.len = N
  have hi : i < N := hN ▸ AH.lt_of_get s.hi
  have hj : j < N := hN ▸ AH.lt_of_get s.hj
  have S := fun t => skip_c (s.ext []).ok s.hT (s.ext []).hi s.ha t
  have S0 := fun t => skip0_c (s.ext []).ok s.hT (s.ext []).hi s.ha t
  have hal := s.hal
  have nx := fun t => isT_next (t := t) s.hT s.ha
  by_cases t3 : t = 3
  · cases h1 : isT T a [124] with
    | true => exact ⟨_, by simp (maxDischargeDepth := 9) only [go_sem, ↓reduceIte, reduceCtorEq, Nat.reduceEqDiff, Int.reduceLE, Int.reduceLT, Int.reduceEq, Int.reduceNeg, Int.reduceAdd, Int.reduceSub, Nat.reduceAdd, Nat.reduceLeDiff, argFr, hN, s.ok, hj, hi, s.hj, t3, S _ h1 hal]; rfl, .inr ⟨[124], by simp, rfl, rfl, nx _ h1, rfl⟩⟩
    | false => exact ⟨_, by simp (maxDischargeDepth := 9) only [go_sem, ↓reduceIte, reduceCtorEq, Nat.reduceEqDiff, Int.reduceLE, Int.reduceLT, Int.reduceEq, Int.reduceNeg, Int.reduceAdd, Int.reduceSub, Nat.reduceAdd, Nat.reduceLeDiff, argFr, hN, s.ok, hj, hi, s.hj, t3, S0 _ h1]; rfl, .inl ⟨rfl, rfl⟩⟩
  · by_cases t4 : t = 4
    · cases h1 : isT T a [38] with
      | true => exact ⟨_, by simp (maxDischargeDepth := 9) only [go_sem, ↓reduceIte, reduceCtorEq, Nat.reduceEqDiff, Int.reduceLE, Int.reduceLT, Int.reduceEq, Int.reduceNeg, Int.reduceAdd, Int.reduceSub, Nat.reduceAdd, Nat.reduceLeDiff, argFr, hN, s.ok, hj, hi, s.hj, t4, S _ h1 hal]; rfl, .inr ⟨[38], by simp, rfl, rfl, nx _ h1, rfl⟩⟩
      | false => exact ⟨_, by simp (maxDischargeDepth := 9) only [go_sem, ↓reduceIte, reduceCtorEq, Nat.reduceEqDiff, Int.reduceLE, Int.reduceLT, Int.reduceEq, Int.reduceNeg, Int.reduceAdd, Int.reduceSub, Nat.reduceAdd, Nat.reduceLeDiff, argFr, hN, s.ok, hj, hi, s.hj, t4, S0 _ h1]; rfl, .inl ⟨rfl, rfl⟩⟩
    · by_cases t7 : t = 7
      · cases h1 : isT T a [43] with
        | true => exact ⟨_, by simp (maxDischargeDepth := 9) only [go_sem, ↓reduceIte, reduceCtorEq, Nat.reduceEqDiff, Int.reduceLE, Int.reduceLT, Int.reduceEq, Int.reduceNeg, Int.reduceAdd, Int.reduceSub, Nat.reduceAdd, Nat.reduceLeDiff, argFr, hN, s.ok, hj, hi, s.hj, t7, S _ h1 hal]; rfl, .inr ⟨[43], by simp, rfl, rfl, nx _ h1, rfl⟩⟩
        | false =>
          cases h2 : isT T a [45] with
          | true => exact ⟨_, by simp (maxDischargeDepth := 9) only [go_sem, ↓reduceIte, reduceCtorEq, Nat.reduceEqDiff, Int.reduceLE, Int.reduceLT, Int.reduceEq, Int.reduceNeg, Int.reduceAdd, Int.reduceSub, Nat.reduceAdd, Nat.reduceLeDiff, argFr, hN, s.ok, hj, hi, s.hj, t7, S0 _ h1, S _ h2 hal]; rfl, .inr ⟨[45], by simp, rfl, rfl, nx _ h2, rfl⟩⟩
          | false => exact ⟨_, by simp (maxDischargeDepth := 9) only [go_sem, ↓reduceIte, reduceCtorEq, Nat.reduceEqDiff, Int.reduceLE, Int.reduceLT, Int.reduceEq, Int.reduceNeg, Int.reduceAdd, Int.reduceSub, Nat.reduceAdd, Nat.reduceLeDiff, argFr, hN, s.ok, hj, hi, s.hj, t7, S0 _ h1, S0 _ h2]; rfl, .inl ⟨rfl, rfl⟩⟩
      · by_cases t8 : t = 8
        · cases h1 : isT T a [42] with
          | true => exact ⟨_, by simp (maxDischargeDepth := 9) only [go_sem, ↓reduceIte, reduceCtorEq, Nat.reduceEqDiff, Int.reduceLE, Int.reduceLT, Int.reduceEq, Int.reduceNeg, Int.reduceAdd, Int.reduceSub, Nat.reduceAdd, Nat.reduceLeDiff, argFr, hN, s.ok, hj, hi, s.hj, t8, S _ h1 hal]; rfl, .inr ⟨[42], by simp, rfl, rfl, nx _ h1, rfl⟩⟩
          | false => exact ⟨_, by simp (maxDischargeDepth := 9) only [go_sem, ↓reduceIte, reduceCtorEq, Nat.reduceEqDiff, Int.reduceLE, Int.reduceLT, Int.reduceEq, Int.reduceNeg, Int.reduceAdd, Int.reduceSub, Nat.reduceAdd, Nat.reduceLeDiff, argFr, hN, s.ok, hj, hi, s.hj, t8, S0 _ h1]; rfl, .inl ⟨rfl, rfl⟩⟩
        · exact ⟨_, by simp (maxDischargeDepth := 9) only [go_sem, ↓reduceIte, reduceCtorEq, Nat.reduceEqDiff, Int.reduceLE, Int.reduceLT, Int.reduceEq, Int.reduceNeg, Int.reduceAdd, Int.reduceSub, Nat.reduceAdd, Nat.reduceLeDiff, argFr, hN, s.ok, hj, hi, s.hj, t3, t4, t7, t8]; rfl, .inl ⟨rfl, rfl⟩⟩

/-- the parts of a chain, and what follows -/
def PartC (L D : Nat) (T : List (List AV)) (i j : Nat) (K : Nat) (as : List AV) : Prop := ∀ g a, St L D T i j g a → Rt EE K (.ptr j 0 0 :: as) g (PP L T i a g)

omit s
theorem chain_loop {L D i j : Nat} {T : List (List AV)} {t : Int} {l : Nat} (hp : PartC L D T i j K_expr_parser_part [.int .i64 t, .int .i64 (l : Int)]) {N : Nat} : ∀ (d a : Nat) (h : AH) (x : Xp) (G : List (Option ABlk)), h.len = N → St L D T i j h a → T.length - a ≤ d → okX L x →
    ∃ r, LP EE L_expr_parser_chain_0 [0, 1, 2, 6, 8] [(0, .ptr j 0 0), (1, .int .i64 t), (2, .int .i64 (l : Int)), (6, .ptr (N + 0) 0 0), (8, .ptr (N + 1) 0 0)] (h.ext (some (.rows 5 [[.str [], .str [], .int .i64 0, .vs [] .exact, .int .i64 0]]) :: some (.rows 5 [encE x]) :: G) []) = some r ∧
      r.1 = .ret ∧ ∃ b G', a ≤ b ∧ b < T.length ∧ fget r.2.1 6 = .ptr (N + 0) 0 0 ∧ ((∃ x, okX L x ∧ fget r.2.1 7 = .nili ∧ r.2.2 = (h.set i (rd T b)).ext (some (.rows 5 [encE x]) :: G') []) ∨ (∃ p n, fget r.2.1 7 = atE p n ∧ r.2.2 = (h.set i (rd T b)).ext (some (.rows 5 [[.str [], .str [], .int .i64 0, .vs [] .exact, .int .i64 0]]) :: G') [])) := by
  intro d
  induction d with
  | zero => intro a h x G hN s hd; have := s.ha; omega
  | succ d ih =>
    intro a h x G hN s hd hx
    have hi : i < N := hN ▸ AH.lt_of_get s.hi
    rw [L_expr_parser_chain_0_eq]
    simp (maxDischargeDepth := 9) only [go_sem, ↓reduceIte, reduceCtorEq, Nat.reduceEqDiff, Int.reduceLE, Int.reduceLT, Int.reduceEq, Int.reduceNeg, Int.reduceAdd, Int.reduceSub, Nat.reduceAdd, Nat.reduceLeDiff, encE_eq]
    refine W_callL (sign_c (s.ext _) t) ?_
    rintro v g' (⟨rfl, rfl⟩ | ⟨o, ho, ho1, rfl, hb, rfl⟩)
    · exact ⟨_, by simp (maxDischargeDepth := 9) only [go_sem, ↓reduceIte, reduceCtorEq, Nat.reduceEqDiff, Int.reduceLE, Int.reduceLT, Int.reduceEq, Int.reduceNeg, Int.reduceAdd, Int.reduceSub, Nat.reduceAdd, Nat.reduceLeDiff, hN, strOp]; rfl, rfl, a, _, Nat.le_refl _, s.ha, rfl, .inl ⟨x, hx, rfl, by rw [AH.set_same s.hi]⟩⟩
    · simp (maxDischargeDepth := 9) only [go_sem, ↓reduceIte, reduceCtorEq, Nat.reduceEqDiff, Int.reduceLE, Int.reduceLT, Int.reduceEq, Int.reduceNeg, Int.reduceAdd, Int.reduceSub, Nat.reduceAdd, Nat.reduceLeDiff, hN, hi, strOp, ho]
      refine W_callL (hp _ _ ((s.set hb).ext _)) ?_
      rintro v g' ⟨b, hab, hbT, rfl, ⟨y, hy, rfl⟩ | ⟨p, n, rfl⟩⟩
      · have hs' := (s.set hb).set hbT
        obtain ⟨r, r1, r2, c, G', r3, r4, r5, r6⟩ := ih b _ (.mk o [] 0 [x, y] x.pos) (G ++ [some (.rows 5 [encE y])]) (by rw [AH.len_set, AH.len_set]; exact hN) hs' (by omega) ⟨by simp, by omega, by simp, by unfold I64; omega, hx, hy, trivial⟩
        simp only [AH.set_set] at r6 r1
        simp only [encE_eq, Xp.op_mk, Xp.nm_mk, Xp.n_mk, Xp.kids_mk, Xp.pos_mk] at r1 r6
        refine ⟨r, ?_, r2, c, G', by omega, r4, r5, r6⟩
        simp (maxDischargeDepth := 9) only [go_sem, ↓reduceIte, reduceCtorEq, Nat.reduceEqDiff, Int.reduceLE, Int.reduceLT, Int.reduceEq, Int.reduceNeg, Int.reduceAdd, Int.reduceSub, Nat.reduceAdd, Nat.reduceLeDiff, hN, hi, encE_eq, two_c, s.ok]
        exact r1
      · unfold atE
        exact ⟨_, by simp (maxDischargeDepth := 9) only [go_sem, ↓reduceIte, reduceCtorEq, Nat.reduceEqDiff, Int.reduceLE, Int.reduceLT, Int.reduceEq, Int.reduceNeg, Int.reduceAdd, Int.reduceSub, Nat.reduceAdd, Nat.reduceLeDiff, hN, hi, encE_eq]; rfl, rfl, b, _, by omega, hbT, rfl, .inr ⟨p, n, rfl, rfl⟩⟩

theorem chain_c {L D i j : Nat} {T : List (List AV)} {t : Int} {l : Nat} (hp : PartC L D T i j K_expr_parser_part [.int .i64 t, .int .i64 (l : Int)]) : PartC L D T i j K_expr_parser_chain [.int .i64 t, .int .i64 (l : Int)] := by
  intro g a s
  refine Rt_fn E_expr_parser_chain rfl ?_
  generalize hN : g.len = N
  have hi : i < N := hN ▸ AH.lt_of_get s.hi
  simp (maxDischargeDepth := 9) only [go_sem, ↓reduceIte, reduceCtorEq, Nat.reduceEqDiff, Int.reduceLE, Int.reduceLT, Int.reduceEq, Int.reduceNeg, Int.reduceAdd, Int.reduceSub, Nat.reduceAdd, Nat.reduceLeDiff, argFr, hN]
  refine W_call (hp _ _ (s.ext _)) ?_
  rintro v g' ⟨b, hab, hbT, rfl, ⟨x, hx, rfl⟩ | ⟨p, n, rfl⟩⟩
  · have s' := s.set hbT
    simp (maxDischargeDepth := 9) only [go_sem, ↓reduceIte, reduceCtorEq, Nat.reduceEqDiff, Int.reduceLE, Int.reduceLT, Int.reduceEq, Int.reduceNeg, Int.reduceAdd, Int.reduceSub, Nat.reduceAdd, Nat.reduceLeDiff, hN, hi, encE_eq]
    have hlp := chain_loop (N := N) hp (T.length - b) b _ x [] (by rw [AH.len_set]; exact hN) s' (Nat.le_refl _) hx
    simp only [encE_eq] at hlp
    refine W_loop hlp ?_
    rintro e fr h' ⟨rfl, c, G', hbc, hcT, f6, ⟨y, hy, f7, rfl⟩ | ⟨p, n, f7, rfl⟩⟩
    · simp only [AH.set_set]
      refine ⟨_, by simp (maxDischargeDepth := 9) only [go_sem, ↓reduceIte, reduceCtorEq, Nat.reduceEqDiff, Int.reduceLE, Int.reduceLT, Int.reduceEq, Int.reduceNeg, Int.reduceAdd, Int.reduceSub, Nat.reduceAdd, Nat.reduceLeDiff, hN, f6, f7, s.ok]; rfl, c, by omega, hcT, rfl, .inl ⟨y, hy, by rw [encE_eq]⟩⟩
    · simp only [AH.set_set]
      unfold atE at f7
      refine ⟨_, by simp (maxDischargeDepth := 9) only [go_sem, ↓reduceIte, reduceCtorEq, Nat.reduceEqDiff, Int.reduceLE, Int.reduceLT, Int.reduceEq, Int.reduceNeg, Int.reduceAdd, Int.reduceSub, Nat.reduceAdd, Nat.reduceLeDiff, hN, f6, f7, s.ok]; rfl, c, by omega, hcT, rfl, .inr ⟨p, n, rfl⟩⟩
  · unfold atE
    exact ⟨_, by simp (maxDischargeDepth := 9) only [go_sem, ↓reduceIte, reduceCtorEq, Nat.reduceEqDiff, Int.reduceLE, Int.reduceLT, Int.reduceEq, Int.reduceNeg, Int.reduceAdd, Int.reduceSub, Nat.reduceAdd, Nat.reduceLeDiff, hN, hi, encE_eq, zeroX, Xp.op_mk, Xp.nm_mk, Xp.n_mk, Xp.kids_mk, Xp.pos_mk, encEs, s.ok]; rfl, b, hab, hbT, rfl, .inr ⟨p, n, rfl⟩⟩
end
end Go.Proofs.YtfahpmlckobpmaaGreatDoor.Pi
