/-
  The statement's own functions (layers 1, 5, 10): an error's number and place; an expression as the document's.
-/
import Derived.Test.YtfahpmlckobpmaaGreatDoorKindC
import Derived.Test.YtfahpmlckobpmaaGreatDoorAlive
set_option linter.unusedSimpArgs false
set_option linter.unusedVariables false
set_option linter.unusedSectionVars false
namespace Go.Proofs.YtfahpmlckobpmaaGreatDoor.Pi
open Go

theorem tAN : (T_P_api_At = T_api_Errno) = False := by simp [T_P_api_At, T_api_Errno]
theorem tPANA : (T_P_P_api_At = T_P_api_Errno) = False := by simp [T_P_P_api_At, T_P_api_Errno]

section
variable {g : AH} (hok : g.ok)
include hok

theorem num_nil : C EE K_law01_Num [.nili] g = some (.int .i64 0, g) := by
  rw [C_XS' E_law01_Num _ _ rfl]
  simp (maxDischargeDepth := 9) only [go_sem, ↓reduceIte, reduceCtorEq, Nat.reduceEqDiff, Int.reduceLE, Int.reduceLT, Int.reduceEq, Int.reduceNeg, Int.reduceAdd, Int.reduceSub, Nat.reduceAdd, Nat.reduceLeDiff, argFr, hok]
theorem num_at (p n : Int) : C EE K_law01_Num [atE p n] g = some (.int .i64 n, g) := by
  generalize hN : g.len = N
  have hA : C EE K_errors_As [atE p n, .iface T_P_api_Errno (.ptr (N + 0) 0 0)] (g.ext [some (.rows 1 [[.int .i64 0]])] []) = some (.bool true, g.ext [some (.rows 1 [[.int .i64 n]])] []) := by
    rw [C_ext (E := EE) (f := K_errors_As) (g := kAs T_api_Errno T_P_api_Errno T_P_api_At T_P_P_api_At) rfl]
    simp only [kAs, atE, storeAt, if_true, AH.get_ext hN, List.getElem?_cons_zero, Option.join_some, Option.bind_some, splice, List.length_cons, List.length_nil, Nat.zero_add, Nat.le_refl, List.take_zero, List.nil_append, List.drop_succ_cons, List.drop_nil, List.append_nil, List.set_cons_zero, AH.set_ext hN, refsL, AV.refs, AH.note_nil, Option.map_some]
  rw [C_XS' E_law01_Num _ _ rfl]
  unfold atE at hA ⊢
  simp (maxDischargeDepth := 9) only [go_sem, ↓reduceIte, reduceCtorEq, Nat.reduceEqDiff, Int.reduceLE, Int.reduceLT, Int.reduceEq, Int.reduceNeg, Int.reduceAdd, Int.reduceSub, Nat.reduceAdd, Nat.reduceLeDiff, argFr, hN, hok, hA]
theorem num_no (n : Int) : C EE K_law01_Num [noE n] g = some (.int .i64 n, g) := by
  generalize hN : g.len = N
  have hA : C EE K_errors_As [noE n, .iface T_P_api_Errno (.ptr (N + 0) 0 0)] (g.ext [some (.rows 1 [[.int .i64 0]])] []) = some (.bool true, g.ext [some (.rows 1 [[.int .i64 n]])] []) := by
    rw [C_ext (E := EE) (f := K_errors_As) (g := kAs T_api_Errno T_P_api_Errno T_P_api_At T_P_P_api_At) rfl]
    simp only [kAs, noE, storeAt, if_true, AH.get_ext hN, List.getElem?_cons_zero, Option.join_some, Option.bind_some, splice, List.length_cons, List.length_nil, Nat.zero_add, Nat.le_refl, List.take_zero, List.nil_append, List.drop_succ_cons, List.drop_nil, List.append_nil, List.set_cons_zero, AH.set_ext hN, refsL, AV.refs, AH.note_nil, Option.map_some]
  rw [C_XS' E_law01_Num _ _ rfl]
  unfold noE at hA ⊢
  simp (maxDischargeDepth := 9) only [go_sem, ↓reduceIte, reduceCtorEq, Nat.reduceEqDiff, Int.reduceLE, Int.reduceLT, Int.reduceEq, Int.reduceNeg, Int.reduceAdd, Int.reduceSub, Nat.reduceAdd, Nat.reduceLeDiff, argFr, hN, hok, hA]

theorem pos_nil : C EE K_law01_Pos [.nili] g = some (.int .i64 (-1), g) := by
  rw [C_XS' E_law01_Pos _ _ rfl]
  simp (maxDischargeDepth := 9) only [go_sem, ↓reduceIte, reduceCtorEq, Nat.reduceEqDiff, Int.reduceLE, Int.reduceLT, Int.reduceEq, Int.reduceNeg, Int.reduceAdd, Int.reduceSub, Nat.reduceAdd, Nat.reduceLeDiff, argFr, hok]
theorem pos_at (p n : Int) : C EE K_law01_Pos [atE p n] g = some (.int .i64 p, g) := by
  generalize hN : g.len = N
  have hA : C EE K_errors_As [atE p n, .iface T_P_P_api_At (.ptr (N + 0) 0 0)] (g.ext [some (.rows 1 [[.nilp]])] []) = some (.bool true, g.ext [some (.rows 1 [[.ref [.int .i64 p, .iface T_api_Errno (.int .i64 n)]]])] []) := by
    rw [C_ext (E := EE) (f := K_errors_As) (g := kAs T_api_Errno T_P_api_Errno T_P_api_At T_P_P_api_At) rfl]
    simp only [kAs, atE, storeAt, if_true, tPANA, if_false, AH.get_ext hN, List.getElem?_cons_zero, Option.join_some, Option.bind_some, splice, List.length_cons, List.length_nil, Nat.zero_add, Nat.le_refl, List.take_zero, List.nil_append, List.drop_succ_cons, List.drop_nil, List.append_nil, List.set_cons_zero, AH.set_ext hN, refsL, AV.refs, AH.note_nil, Option.map_some]
  rw [C_XS' E_law01_Pos _ _ rfl]
  unfold atE at hA ⊢
  simp (maxDischargeDepth := 9) only [go_sem, ↓reduceIte, reduceCtorEq, Nat.reduceEqDiff, Int.reduceLE, Int.reduceLT, Int.reduceEq, Int.reduceNeg, Int.reduceAdd, Int.reduceSub, Nat.reduceAdd, Nat.reduceLeDiff, argFr, hN, hok, hA]
end

/-- an expression as the document's -/
def ToC (x : Xp) : Prop := ∀ (g : AH) (tok : Tok), g.ok → C EE K_law05_To [.agg [.str x.op, .str x.nm, .int .i64 x.n, .vs (encEs x.kids) tok, .int .i64 x.pos]] g = some (.agg [.str x.op, .str x.nm, .int .i64 x.n, .vs (encEs x.kids) .shared, .int .i64 x.pos], g)

section
variable {g : AH} (hok : g.ok)
include hok
theorem to_loop {N : Nat} (hN : g.len = N) {op nm : List Nat} {n pos : Int} {kids : List Xp} (hk : ∀ k ∈ kids, ToC k) (hl : kids.length ≤ 100000) (z0 : Option ABlk) : ∀ (d i : Nat) (t : Tok) (G : List (Option ABlk)) (e : List (Nat × Nat)), kids.length - i ≤ d → i ≤ kids.length →
    GT N 2 (z0 :: some (.rows 5 [[.str op, .str nm, .int .i64 n, .vs (encEs (kids.take i)) t, .int .i64 pos]]) :: G) t 5 i → EOK N (z0 :: some (.rows 5 [[.str op, .str nm, .int .i64 n, .vs (encEs (kids.take i)) t, .int .i64 pos]]) :: G) e →
    ∃ r, LP EE L_law05_To_0 [1, 2, 3, 4] [(1, .ref [.str op, .str nm, .int .i64 n, .vs (encEs kids) .shared, .int .i64 pos]), (2, .ptr (N + 0) 0 0), (3, .ptr (N + 1) 0 0), (4, .int .i64 (i : Int))] (g.ext (z0 :: some (.rows 5 [[.str op, .str nm, .int .i64 n, .vs (encEs (kids.take i)) t, .int .i64 pos]]) :: G) e) = some r ∧
      r.1 = .exit 0 ∧ fget r.2.1 2 = .ptr (N + 0) 0 0 ∧ fget r.2.1 3 = .ptr (N + 1) 0 0 ∧ ∃ t' G' e', r.2.2 = g.ext (z0 :: some (.rows 5 [[.str op, .str nm, .int .i64 n, .vs (encEs kids) t', .int .i64 pos]]) :: G') e' ∧
        GT N 2 (z0 :: some (.rows 5 [[.str op, .str nm, .int .i64 n, .vs (encEs kids) t', .int .i64 pos]]) :: G') t' 5 kids.length ∧ EOK N (z0 :: some (.rows 5 [[.str op, .str nm, .int .i64 n, .vs (encEs kids) t', .int .i64 pos]]) :: G') e' := by
  intro d
  induction d with
  | zero =>
    intro i t G e hd hi ht he
    obtain rfl : i = kids.length := by omega
    have hlt : ¬ ((kids.length : Int) < kids.length) := by omega
    rw [List.take_length] at ht he ⊢
    exact ⟨_, by rw [L_law05_To_0_eq]; simp (maxDischargeDepth := 9) only [go_sem, ↓reduceIte, reduceCtorEq, Nat.reduceEqDiff, Int.reduceLE, Int.reduceLT, Int.reduceEq, Int.reduceNeg, Int.reduceAdd, Int.reduceSub, Nat.reduceAdd, Nat.reduceLeDiff, encEs_len, hlt]; rfl, rfl, rfl, rfl, t, G, e, rfl, ht, he⟩
  | succ d ih =>
    intro i t G e hd hi ht he
    by_cases hlt' : i < kids.length
    · have hlt : ((i : Int) < kids.length) := by omega
      have h0 : (0 : Int) ≤ i := by omega
      have hw : IntKind.i64.wrap ((i : Int) + 1) = ((i + 1 : Nat) : Int) := by rw [w64s] <;> omega
      have hg := encEs_get hlt'
      rw [encE_eq] at hg
      have hc := hk _ (List.getElem_mem hlt') _ .shared (EOK.ok hok hN he)
      have hlen : (encEs (kids.take i)).length = i := by rw [encEs_len, List.length_take]; omega
      obtain ⟨l', q1, q2, q3, q4⟩ := append_pre (h := g) hN 2 (l := z0 :: some (.rows 5 [[.str op, .str nm, .int .i64 n, .vs (encEs (kids.take i)) t, .int .i64 pos]]) :: G) e (E := encEs (kids.take i)) (n := [encE kids[i]]) (t := t) (z := 5) (y := .vs [encE kids[i]] .exact) (by simp) (by rw [hlen]; exact ht) rfl (by simp) (encEs_z _) (by simp [encE_eq, stripL, AV.strip, pureL, AV.pure]) (by rw [hlen]; unfold maxLenA; simp; omega)
      obtain ⟨G', rfl⟩ := take_two q2
      have hE : encEs (kids.take i) ++ [encE kids[i]] = encEs (kids.take (i + 1)) := by
        rw [List.take_succ_eq_append_getElem hlt', encEs_app]; rfl
      have hst : [encE kids[i]].map stripL = [encE kids[i]] := by simp only [List.map_cons, List.map_nil, encE_eq, stripL, AV.strip]
      rw [hst, hE] at q1 q4
      simp only [List.length_cons] at q1 q3 q4
      have q4' : GT N 2 (z0 :: some (.rows 5 [[.str op, .str nm, .int .i64 n, .vs (encEs (kids.take (i + 1))) (.grow (N + (G.length + 1 + 1)) 0), .int .i64 pos]]) :: G') (.grow (N + (G.length + 1 + 1)) 0) 5 (i + 1) := by
        have := q4.cons2 (c := z0) (d := some (.rows 5 [[.str op, .str nm, .int .i64 n, .vs (encEs (kids.take (i + 1))) (.grow (N + (G.length + 1 + 1)) 0), .int .i64 pos]]))
        rwa [encEs_len, List.length_take, Nat.min_eq_left (by omega)] at this
      have he' := (EOK.more (l' := z0 :: some (.rows 5 [[.str op, .str nm, .int .i64 n, .vs (encEs (kids.take (i + 1))) (.grow (N + (G.length + 1 + 1)) 0), .int .i64 pos]]) :: G') he (by simp only [List.length_cons] at q3 ⊢; omega)).note (i := N + 1) (by omega) (rs := refsL [.vs (encEs (kids.take (i + 1))) (.grow (N + (G.length + 1 + 1)) 0)]) (by
        intro r hr
        simp only [refsL, AV.refs, List.append_nil, List.mem_singleton] at hr
        simp only [List.length_cons] at q3 ⊢; omega)
      obtain ⟨r, r1, r2⟩ := ih (i + 1) _ G' _ (by omega) (by omega) q4' he'
      refine ⟨r, ?_, r2⟩
      rw [encE_eq] at q1
      rw [L_law05_To_0_eq]
      simp only [refsL, AV.refs, List.append_nil] at r1
      simp (maxDischargeDepth := 9) only [go_sem, ↓reduceIte, reduceCtorEq, Nat.reduceEqDiff, Int.reduceLE, Int.reduceLT, Int.reduceEq, Int.reduceNeg, Int.reduceAdd, Int.reduceSub, Nat.reduceAdd, Nat.reduceLeDiff, encEs_len, hN, hlt, h0, Int.toNat_natCast, hg, hc, q1, hw, r1]
    · obtain rfl : i = kids.length := by omega
      have hlt : ¬ ((kids.length : Int) < kids.length) := by omega
      rw [List.take_length] at ht he ⊢
      exact ⟨_, by rw [L_law05_To_0_eq]; simp (maxDischargeDepth := 9) only [go_sem, ↓reduceIte, reduceCtorEq, Nat.reduceEqDiff, Int.reduceLE, Int.reduceLT, Int.reduceEq, Int.reduceNeg, Int.reduceAdd, Int.reduceSub, Nat.reduceAdd, Nat.reduceLeDiff, encEs_len, hlt]; rfl, rfl, rfl, rfl, t, G, e, rfl, ht, he⟩
end
end Go.Proofs.YtfahpmlckobpmaaGreatDoor.Pi
/-
  CheckKinds (layer 10): it answers true.
-/
namespace Go.Proofs.YtfahpmlckobpmaaGreatDoor.Pi
open Go

/-- few kids everywhere -/
def fewX : Xp → Prop := fun x => x.kids.length ≤ 100000
theorem okX.kids {L : Nat} {x : Xp} (h : okX L x) : x.kids.length ≤ 5 ∧ ∀ k ∈ x.kids, okX L k := by
  cases x with
  | mk op nm n kids pos => exact ⟨h.1, (okXs_iff L kids).1 h.2.2.2.2⟩

theorem to_step {x : Xp} (hf : x.kids.length ≤ 100000) (hk : ∀ k ∈ x.kids, ToC k) : ToC x := by
  intro g tok hok
  generalize hN : g.len = N
  obtain ⟨⟨e, fr, h'⟩, q1, rfl, f2, f3, t', G', e', rfl, ht, he⟩ := to_loop hok hN (op := x.op) (nm := x.nm) (n := x.n) (pos := x.pos) hk hf (some (.rows 5 [[.str [], .str [], .int .i64 0, .vs [] .exact, .int .i64 0]])) x.kids.length 0 .exact [] [] (by omega) (by omega) (GT_exact ..) (by intro y hy; cases hy)
  simp only [List.take_zero, encEs, Int.natCast_zero, Int.ofNat_zero] at q1
  have lv := fun (b : List AV) (vs : List AV) (hv : refsL vs = []) => AH.leave_none (h := g) (N := N) (l := some (.rows 5 [b]) :: some (.rows 5 [[.str x.op, .str x.nm, .int .i64 x.n, .vs (encEs x.kids) t', .int .i64 x.pos]]) :: G') (e := (List.filter (fun r => decide (N + 0 < r)) (AV.vs (encEs x.kids) t').refs).map (fun r => (N + 0, r)) ++ e') hN hok (by
    refine (EOK.note (i := N + 0) (EOK.more he (l' := some (.rows 5 [b]) :: some (.rows 5 [[.str x.op, .str x.nm, .int .i64 x.n, .vs (encEs x.kids) t', .int .i64 x.pos]]) :: G') (by simp)) (by omega) ?_).le
    intro r hr
    have := GT_lt ht (encEs x.kids) r hr
    simpa using this) (vs := vs) hv
  rw [C_XS' E_law05_To _ _ rfl]
  simp (maxDischargeDepth := 9) only [go_sem, ↓reduceIte, reduceCtorEq, Nat.reduceEqDiff, Int.reduceLE, Int.reduceLT, Int.reduceEq, Int.reduceNeg, Int.reduceAdd, Int.reduceSub, Nat.reduceAdd, Nat.reduceLeDiff, argFr, hN, hok, q1, f2, f3, lv]

theorem to_ok {L : Nat} : ∀ x, okX L x → ToC x :=
  Xp.ind fun x ih hx => to_step (by have := hx.kids.1; omega) fun k hk => ih k hk (hx.kids.2 k hk)

/-- both answers are the same -/
theorem kind_law {l : List Slt} {t1 t2 t3 : Tok} (hl : l.length ≤ 100000) {x : Xp} (hx : ToC x) {g : AH} (hok : g.ok) :
    C EE K_law10_kind [.agg [.str x.op, .str x.nm, .int .i64 x.n, .vs (encEs x.kids) t1, .int .i64 x.pos], .vs (encSs l) t2, .vs (encSs l) t3] g = some (.bool true, g) := by
  have h1 := kind_all (tok := t2) hl x g hok
  have h2 := ref_all (tok := t3) hl x g hok
  have h3 := hx g .shared hok
  have hn := kN l x
  rw [C_XS' E_law10_kind _ _ rfl]
  cases hq : kS l x with
  | ok b =>
    rw [hq] at h1 h2
    simp only [resK, resR] at h1 h2
    cases b
    all_goals
      simp only [if_true, if_false, Bool.false_eq_true] at h2
      simp (maxDischargeDepth := 9) only [go_sem, ↓reduceIte, reduceCtorEq, Nat.reduceEqDiff, Int.reduceLE, Int.reduceLT, Int.reduceEq, Int.reduceNeg, Int.reduceAdd, Int.reduceSub, Nat.reduceAdd, Nat.reduceLeDiff, argFr, hok, AH.ext_nil, h1, h2, h3, num_nil hok, pos_nil hok]
  | err p n =>
    rw [hq] at h1 h2 hn
    have hn0 : (n = 0) = False := by rcases hn with rfl | rfl | rfl <;> simp
    have e1 := num_at hok p n
    have e2 := pos_at hok p n
    simp only [resK, resR] at h1 h2
    unfold atE at h1 e1 e2
    simp (maxDischargeDepth := 9) only [go_sem, ↓reduceIte, reduceCtorEq, Nat.reduceEqDiff, Int.reduceLE, Int.reduceLT, Int.reduceEq, Int.reduceNeg, Int.reduceAdd, Int.reduceSub, Nat.reduceAdd, Nat.reduceLeDiff, argFr, hok, AH.ext_nil, h1, h2, h3, e1, e2, hn0]

/-- the loop that copies the variables -/
theorem vars_loop {g : AH} (hok : g.ok) {N : Nat} (hN : g.len = N) {l : List Slt} (hl : l.length ≤ 30) (v0 v1 v2 : AV) (t3 : Tok) : ∀ (d i : Nat) (t : Tok) (G : List (Option ABlk)), l.length - i ≤ d → i ≤ l.length → GT N 0 G t 6 i →
    ∃ r, LP EE L_law10_CheckKinds_0 [0, 1, 2, 3, 9, 10] [(0, v0), (1, v1), (2, v2), (3, .vs (encSs l) t3), (9, .vs (encSs (l.take i)) t), (10, .int .i64 (i : Int))] (g.ext G []) = some r ∧
      r.1 = .exit 0 ∧ fget r.2.1 0 = v0 ∧ fget r.2.1 1 = v1 ∧ fget r.2.1 2 = v2 ∧ fget r.2.1 3 = .vs (encSs l) t3 ∧ ∃ t' G', fget r.2.1 9 = .vs (encSs l) t' ∧ r.2.2 = g.ext G' [] := by
  intro d
  induction d with
  | zero =>
    intro i t G hd hi ht
    obtain rfl : i = l.length := by omega
    have hlt : ¬ ((l.length : Int) < l.length) := by omega
    rw [List.take_length]
    exact ⟨_, by rw [L_law10_CheckKinds_0_eq]; simp (maxDischargeDepth := 9) only [go_sem, ↓reduceIte, reduceCtorEq, Nat.reduceEqDiff, Int.reduceLE, Int.reduceLT, Int.reduceEq, Int.reduceNeg, Int.reduceAdd, Int.reduceSub, Nat.reduceAdd, Nat.reduceLeDiff, encSs_len, hlt]; rfl, rfl, rfl, rfl, rfl, rfl, t, G, rfl, rfl⟩
  | succ d ih =>
    intro i t G hd hi ht
    by_cases hlt' : i < l.length
    · have hlt : ((i : Int) < l.length) := by omega
      have h0 : (0 : Int) ≤ i := by omega
      have hw : IntKind.i64.wrap ((i : Int) + 1) = ((i + 1 : Nat) : Int) := by rw [w64s] <;> omega
      have hg := encSs_get hlt'
      have hlen : (encSs (l.take i)).length = i := by rw [encSs_len, List.length_take]; omega
      obtain ⟨l', q1, q2, q3, q4⟩ := append_pre (h := g) hN 0 (l := G) [] (E := encSs (l.take i)) (n := [encS l[i]]) (t := t) (z := 6) (y := .vs [encS l[i]] .exact) (Nat.zero_le _) (by rw [hlen]; exact ht) rfl (by simp) (encSs_z _) (by simp [encS, stripL, AV.strip, pureL, AV.pure]) (by rw [hlen]; unfold maxLenA; simp; omega)
      have hE : encSs (l.take i) ++ [encS l[i]] = encSs (l.take (i + 1)) := by
        rw [List.take_succ_eq_append_getElem hlt']; simp only [encSs, List.map_append, List.map_cons, List.map_nil]
      have hst : [encS l[i]].map stripL = [encS l[i]] := by simp only [List.map_cons, List.map_nil, encS, stripL, AV.strip]
      rw [hst, hE] at q1 q4
      rw [encSs_len, List.length_take, Nat.min_eq_left (by omega)] at q4
      obtain ⟨r, r1, r2⟩ := ih (i + 1) _ l' (by omega) (by omega) q4
      refine ⟨r, ?_, r2⟩
      simp only [encS] at q1 hg
      rw [L_law10_CheckKinds_0_eq]
      simp (maxDischargeDepth := 9) only [go_sem, ↓reduceIte, reduceCtorEq, Nat.reduceEqDiff, Int.reduceLE, Int.reduceLT, Int.reduceEq, Int.reduceNeg, Int.reduceAdd, Int.reduceSub, Nat.reduceAdd, Nat.reduceLeDiff, encSs_len, hN, hlt, h0, Int.toNat_natCast, hg, q1, hw, r1]
    · obtain rfl : i = l.length := by omega
      have hlt : ¬ ((l.length : Int) < l.length) := by omega
      rw [List.take_length]
      exact ⟨_, by rw [L_law10_CheckKinds_0_eq]; simp (maxDischargeDepth := 9) only [go_sem, ↓reduceIte, reduceCtorEq, Nat.reduceEqDiff, Int.reduceLE, Int.reduceLT, Int.reduceEq, Int.reduceNeg, Int.reduceAdd, Int.reduceSub, Nat.reduceAdd, Nat.reduceLeDiff, encSs_len, hlt]; rfl, rfl, rfl, rfl, rfl, rfl, t, G, rfl, rfl⟩
end Go.Proofs.YtfahpmlckobpmaaGreatDoor.Pi
/-
  CheckKinds (layer 10), 2: all of it.
-/
namespace Go.Proofs.YtfahpmlckobpmaaGreatDoor.Pi
open Go

def strsV (l : List (List Nat)) : List (List AV) := l.map fun s => [.str s]
theorem strsV_len (l : List (List Nat)) : (strsV l).length = l.length := List.length_map ..
theorem strsV_get {l : List (List Nat)} {i : Nat} (hi : i < l.length) : (strsV l)[i]? = some [.str l[i]] := by simp [strsV, get_some hi]

theorem kids_loop {g : AH} (hok : g.ok) {N : Nat} (hN : g.len = N) {ks : List (List Nat)} (hks : ks.length ≤ 5) (hb : ∀ k ∈ ks, bytesL k) (t2 : Tok) (v3 v9 v12 : AV) (op s : List Nat) (b0 : Option ABlk) : ∀ (d i : Nat) (xs : List Xp) (t : Tok) (G : List (Option ABlk)) (e : List (Nat × Nat)), ks.length - i ≤ d → i ≤ ks.length → xs.length ≤ i → (∀ x ∈ xs, okX 300 x) →
    GT N 2 (b0 :: some (.rows 5 [[.str op, .str s, .int .i64 0, .vs (encEs xs) t, .int .i64 3]]) :: G) t 5 xs.length → EOK N (b0 :: some (.rows 5 [[.str op, .str s, .int .i64 0, .vs (encEs xs) t, .int .i64 3]]) :: G) e →
    ∃ r, LP EE L_law10_CheckKinds_1 [2, 3, 9, 11, 12, 13, 14] [(2, .vs (strsV ks) t2), (3, v3), (9, v9), (11, .ptr (N + 0) 0 0), (12, v12), (13, .ptr (N + 1) 0 0), (14, .int .i64 (i : Int))] (g.ext (b0 :: some (.rows 5 [[.str op, .str s, .int .i64 0, .vs (encEs xs) t, .int .i64 3]]) :: G) e) = some r ∧
      ((r.1 = .ret ∧ fget r.2.1 8 = .bool true ∧ ∃ l e', r.2.2 = g.ext l e' ∧ EOK N l e') ∨
       (r.1 = .exit 2 ∧ fget r.2.1 3 = v3 ∧ fget r.2.1 9 = v9 ∧ fget r.2.1 11 = .ptr (N + 0) 0 0 ∧ fget r.2.1 12 = v12 ∧ fget r.2.1 13 = .ptr (N + 1) 0 0 ∧ ∃ xs t G e', xs.length ≤ 5 ∧ (∀ x ∈ xs, okX 300 x) ∧ r.2.2 = g.ext (b0 :: some (.rows 5 [[.str op, .str s, .int .i64 0, .vs (encEs xs) t, .int .i64 3]]) :: G) e' ∧
          EOK N (b0 :: some (.rows 5 [[.str op, .str s, .int .i64 0, .vs (encEs xs) t, .int .i64 3]]) :: G) e')) := by
  intro d
  induction d with
  | zero =>
    intro i xs t G e hd hi hx hxs ht he
    obtain rfl : i = ks.length := by omega
    have hlt : ¬ ((ks.length : Int) < ks.length) := by omega
    exact ⟨_, by rw [L_law10_CheckKinds_1_eq]; simp (maxDischargeDepth := 9) only [go_sem, ↓reduceIte, reduceCtorEq, Nat.reduceEqDiff, Int.reduceLE, Int.reduceLT, Int.reduceEq, Int.reduceNeg, Int.reduceAdd, Int.reduceSub, Nat.reduceAdd, Nat.reduceLeDiff, strsV_len, hlt]; rfl, .inr ⟨rfl, rfl, rfl, rfl, rfl, rfl, xs, t, G, e, by omega, hxs, rfl, he⟩⟩
  | succ d ih =>
    intro i xs t G e hd hi hx hxs ht he
    by_cases hlt' : i < ks.length
    · have hlt : ((i : Int) < ks.length) := by omega
      have h0 : (0 : Int) ≤ i := by omega
      have hw : IntKind.i64.wrap ((i : Int) + 1) = ((i + 1 : Nat) : Int) := by rw [w64s] <;> omega
      have hg := strsV_get hlt'
      by_cases hbig : ((ks[i].length : Int) > 300)
      · exact ⟨_, by rw [L_law10_CheckKinds_1_eq]; simp (maxDischargeDepth := 9) only [go_sem, ↓reduceIte, reduceCtorEq, Nat.reduceEqDiff, Int.reduceLE, Int.reduceLT, Int.reduceEq, Int.reduceNeg, Int.reduceAdd, Int.reduceSub, Nat.reduceAdd, Nat.reduceLeDiff, strsV_len, hlt, h0, Int.toNat_natCast, hg, hbig]; rfl, .inl ⟨rfl, rfl, _, _, rfl, he⟩⟩
      · rw [L_law10_CheckKinds_1_eq]
        simp (maxDischargeDepth := 9) only [go_sem, ↓reduceIte, reduceCtorEq, Nat.reduceEqDiff, Int.reduceLE, Int.reduceLT, Int.reduceEq, Int.reduceNeg, Int.reduceAdd, Int.reduceSub, Nat.reduceAdd, Nat.reduceLeDiff, strsV_len, hlt, h0, Int.toNat_natCast, hg, hbig]
        have h64 : ((64 : Nat) : Int) = 64 := rfl
        have hp := parse_c (h := g.ext (b0 :: some (.rows 5 [[.str op, .str s, .int .i64 0, .vs (encEs xs) t, .int .i64 3]]) :: G) e) (EOK.ok hok hN he) (hb _ (List.getElem_mem hlt')) (by omega) (D := 64) (by omega) (by omega)
        rw [h64] at hp
        refine W_callL hp ?_
        rintro v _ ⟨rfl, ⟨x, hxo, rfl⟩ | ⟨er, rfl, her⟩⟩
        · have hlen := encEs_len xs
          have ht' : GT N 2 (b0 :: some (.rows 5 [[.str op, .str s, .int .i64 0, .vs (encEs xs) t, .int .i64 3]]) :: (G ++ [some (.rows 5 [[.str x.op, .str x.nm, .int .i64 x.n, .vs (encEs x.kids) .shared, .int .i64 x.pos]])])) t 5 (encEs xs).length := by rw [hlen]; exact ht.snoc _
          obtain ⟨l', q1, q2, q3, q4⟩ := append_pre (h := g) hN 2 (l := b0 :: some (.rows 5 [[.str op, .str s, .int .i64 0, .vs (encEs xs) t, .int .i64 3]]) :: (G ++ [some (.rows 5 [[.str x.op, .str x.nm, .int .i64 x.n, .vs (encEs x.kids) .shared, .int .i64 x.pos]])])) e (E := encEs xs) (n := [encE x]) (t := t) (z := 5) (y := .vs [encE x] .exact) (by simp) ht' rfl (by simp) (encEs_z _) (by simp [encE_eq, stripL, AV.strip, pureL, AV.pure]) (by rw [hlen]; unfold maxLenA; simp; omega)
          obtain ⟨G', rfl⟩ := take_two q2
          have hE : encEs xs ++ [encE x] = encEs (xs ++ [x]) := by rw [encEs_app]; rfl
          have hst : [encE x].map stripL = [encE x] := by simp only [List.map_cons, List.map_nil, encE_eq, stripL, AV.strip]
          rw [hst, hE] at q1 q4
          simp only [List.length_cons, List.length_append, List.length_nil, Nat.zero_add] at q1 q3 q4
          have hle : x.kids.length ≤ 5 := hxo.kids.1
          have q4' : GT N 2 (b0 :: some (.rows 5 [[.str op, .str s, .int .i64 0, .vs (encEs (xs ++ [x])) (.grow (N + (G.length + 1 + 1 + 1)) 0), .int .i64 3]]) :: G') (.grow (N + (G.length + 1 + 1 + 1)) 0) 5 (xs ++ [x]).length := by
            have := q4.cons2 (c := b0) (d := some (.rows 5 [[.str op, .str s, .int .i64 0, .vs (encEs (xs ++ [x])) (.grow (N + (G.length + 1 + 1 + 1)) 0), .int .i64 3]]))
            rwa [encEs_len] at this
          have he' := (EOK.more (l' := b0 :: some (.rows 5 [[.str op, .str s, .int .i64 0, .vs (encEs (xs ++ [x])) (.grow (N + (G.length + 1 + 1 + 1)) 0), .int .i64 3]]) :: G') he (by simp only [List.length_cons] at q3 ⊢; omega)).note (i := N + 1) (by omega) (rs := refsL [.vs (encEs (xs ++ [x])) (.grow (N + (G.length + 1 + 1 + 1)) 0)]) (by
            intro r hr
            simp only [refsL, AV.refs, List.append_nil, List.mem_singleton] at hr
            simp only [List.length_cons] at q3 ⊢; omega)
          obtain ⟨r, r1, r2⟩ := ih (i + 1) (xs ++ [x]) _ G' _ (by omega) (by omega) (by simp; omega) (fun y hy => by
            rcases List.mem_append.1 hy with hy | hy
            · exact hxs y hy
            · simp only [List.mem_singleton] at hy; subst hy; exact okX_mono (by omega) hxo) q4' he'
          refine ⟨r, ?_, r2⟩
          rw [encE_eq] at q1
          simp only [refsL, AV.refs, List.append_nil] at r1
          simp (maxDischargeDepth := 9) only [go_sem, ↓reduceIte, reduceCtorEq, Nat.reduceEqDiff, Int.reduceLE, Int.reduceLT, Int.reduceEq, Int.reduceNeg, Int.reduceAdd, Int.reduceSub, Nat.reduceAdd, Nat.reduceLeDiff, encE_eq, hN, q1, hw, r1]
        · have hext := ih (i + 1) xs t (G ++ [some (.rows 5 [[.str [], .str [], .int .i64 0, .vs [] .shared, .int .i64 0]])]) e (by omega) (by omega) (by omega) hxs (by simpa using ht.snoc [some (.rows 5 [[.str [], .str [], .int .i64 0, .vs [] .shared, .int .i64 0]])]) (he.more (by simp))
          obtain ⟨r, r1, r2⟩ := hext
          refine ⟨r, ?_, r2⟩
          rcases her with ⟨p, n, rfl⟩ | ⟨n, rfl⟩
          · unfold atE
            simp (maxDischargeDepth := 9) only [go_sem, ↓reduceIte, reduceCtorEq, Nat.reduceEqDiff, Int.reduceLE, Int.reduceLT, Int.reduceEq, Int.reduceNeg, Int.reduceAdd, Int.reduceSub, Nat.reduceAdd, Nat.reduceLeDiff, encZ, hN, hw, r1]
          · unfold noE
            simp (maxDischargeDepth := 9) only [go_sem, ↓reduceIte, reduceCtorEq, Nat.reduceEqDiff, Int.reduceLE, Int.reduceLT, Int.reduceEq, Int.reduceNeg, Int.reduceAdd, Int.reduceSub, Nat.reduceAdd, Nat.reduceLeDiff, encZ, hN, hw, r1]
    · obtain rfl : i = ks.length := by omega
      have hlt : ¬ ((ks.length : Int) < ks.length) := by omega
      exact ⟨_, by rw [L_law10_CheckKinds_1_eq]; simp (maxDischargeDepth := 9) only [go_sem, ↓reduceIte, reduceCtorEq, Nat.reduceEqDiff, Int.reduceLE, Int.reduceLT, Int.reduceEq, Int.reduceNeg, Int.reduceAdd, Int.reduceSub, Nat.reduceAdd, Nat.reduceLeDiff, strsV_len, hlt]; rfl, .inr ⟨rfl, rfl, rfl, rfl, rfl, rfl, xs, t, G, e, by omega, hxs, rfl, he⟩⟩

theorem checkKinds_c (s op : List Nat) (ks : List (List Nat)) (l : List Slt) (hs : bytesL s) (hks : ∀ k ∈ ks, bytesL k) (t2 t3 : Tok) : ∃ h', C EE K_law10_CheckKinds [.str s, .str op, .vs (strsV ks) t2, .vs (encSs l) t3] ⟨[], []⟩ = some (.bool true, h') := by
  suffices h : Rt EE K_law10_CheckKinds [.str s, .str op, .vs (strsV ks) t2, .vs (encSs l) t3] ⟨[], []⟩ (fun v _ => v = .bool true) by
    obtain ⟨⟨v, h'⟩, h1, h2⟩ := h
    exact ⟨h', by rw [h1]; simp only at h2; rw [h2]⟩
  refine Rt_fn E_law10_CheckKinds rfl ?_
  have hA := alive_c
  have hok : (⟨[], []⟩ : AH).ok := AH.ok_empty
  rw [AH.ext_nil]
  generalize hG : (⟨[], []⟩ : AH) = g at *
  generalize hN : g.len = N
  by_cases c1 : ((s.length : Int) > 1000)
  · exact ⟨_, by simp (maxDischargeDepth := 9) only [go_sem, ↓reduceIte, reduceCtorEq, Nat.reduceEqDiff, Int.reduceLE, Int.reduceLT, Int.reduceEq, Int.reduceNeg, Int.reduceAdd, Int.reduceSub, Nat.reduceAdd, Nat.reduceLeDiff, argFr, hN, hok, hA, c1, strsV_len, encSs_len]; rfl, rfl⟩
  by_cases c2 : ((ks.length : Int) > 5)
  · exact ⟨_, by simp (maxDischargeDepth := 9) only [go_sem, ↓reduceIte, reduceCtorEq, Nat.reduceEqDiff, Int.reduceLE, Int.reduceLT, Int.reduceEq, Int.reduceNeg, Int.reduceAdd, Int.reduceSub, Nat.reduceAdd, Nat.reduceLeDiff, argFr, hN, hok, hA, c1, c2, strsV_len, encSs_len]; rfl, rfl⟩
  by_cases c3 : ((l.length : Int) > 30)
  · exact ⟨_, by simp (maxDischargeDepth := 9) only [go_sem, ↓reduceIte, reduceCtorEq, Nat.reduceEqDiff, Int.reduceLE, Int.reduceLT, Int.reduceEq, Int.reduceNeg, Int.reduceAdd, Int.reduceSub, Nat.reduceAdd, Nat.reduceLeDiff, argFr, hN, hok, hA, c1, c2, c3, strsV_len, encSs_len]; rfl, rfl⟩
  have hl : l.length ≤ 30 := by omega
  obtain ⟨⟨e1, fr1, h1⟩, p1, rfl, f0, f1, f2, f3, t', G', f9, rfl⟩ := vars_loop hok hN hl (.str s) (.str op) (.vs (strsV ks) t2) t3 l.length 0 .exact [] (by omega) (by omega) (GT_exact ..)
  simp only [List.take_zero, Int.natCast_zero, Int.ofNat_zero, AH.ext_nil] at p1
  have e0 : encSs [] = [] := rfl
  rw [e0] at p1
  have hok2 : (g.ext G' []).ok := AH.ok_ext0 hok
  have h64 : ((64 : Nat) : Int) = 64 := rfl
  have hp := parse_c hok2 hs (by omega) (D := 64) (by omega) (by omega)
  rw [h64] at hp
  simp (maxDischargeDepth := 9) only [go_sem, ↓reduceIte, reduceCtorEq, Nat.reduceEqDiff, Int.reduceLE, Int.reduceLT, Int.reduceEq, Int.reduceNeg, Int.reduceAdd, Int.reduceSub, Nat.reduceAdd, Nat.reduceLeDiff, argFr, hN, hok, hA, c1, c2, c3, strsV_len, encSs_len, p1, f0, f1, f2, f3, f9]
  refine W_call hp ?_
  have hks5 : ks.length ≤ 5 := by omega
  have hl5 : l.length ≤ 100000 := by omega
  generalize hg2 : g.ext G' [] = g2 at *
  generalize hM : g2.len = M
  have odd : ∀ (xs : List Xp) (t : Tok) (g : AH), g.ok → xs.length ≤ 5 → (∀ x ∈ xs, okX 300 x) → C EE K_law10_kind [.agg [.str op, .str s, .int .i64 0, .vs (encEs xs) t, .int .i64 3], .vs (encSs l) t', .vs (encSs l) t3] g = some (.bool true, g) := fun xs t g hg hx hxs =>
    kind_law (x := .mk op s 0 xs 3) hl5 (to_step (by simp only [Xp.kids_mk]; omega) fun k hk => to_ok k (hxs k hk)) hg
  rintro v w ⟨hw, ⟨x, hx, rfl⟩ | ⟨er, rfl, her⟩⟩
  · rw [hw, ← AH.ext_nil (h := g2)]
    have kx : ∀ (g : AH), g.ok → C EE K_law10_kind [.agg [.str x.op, .str x.nm, .int .i64 x.n, .vs (encEs x.kids) .shared, .int .i64 x.pos], .vs (encSs l) t', .vs (encSs l) t3] g = some (.bool true, g) := fun g hg => kind_law hl5 (to_ok x hx) hg
    have hkl := kids_loop hok2 hM hks5 hks t2 (.vs (encSs l) t3) (.vs (encSs l) t') .nili op s (some (.rows 5 [[.str x.op, .str x.nm, .int .i64 x.n, .vs (encEs x.kids) .shared, .int .i64 x.pos]])) ks.length 0 [] .exact [] [] (by omega) (by omega) (by simp) (by simp) (GT_exact ..) (by intro y hy; cases hy)
    simp only [encEs, Int.natCast_zero, Int.ofNat_zero] at hkl
    simp (maxDischargeDepth := 9) only [go_sem, ↓reduceIte, reduceCtorEq, Nat.reduceEqDiff, Int.reduceLE, Int.reduceLT, Int.reduceEq, Int.reduceNeg, Int.reduceAdd, Int.reduceSub, Nat.reduceAdd, Nat.reduceLeDiff, encE_eq, hM, f0, f1, f2, f3, f9]
    refine W_loop hkl ?_
    rintro e fr h' (⟨rfl, f8, l', e', rfl, he⟩ | ⟨rfl, f3, f9, f11, f12, f13, xs, t, G, e', hxs, hxo, rfl, he⟩)
    · exact ⟨_, by simp (maxDischargeDepth := 9) only [go_sem, ↓reduceIte, reduceCtorEq, Nat.reduceEqDiff, Int.reduceLE, Int.reduceLT, Int.reduceEq, Int.reduceNeg, Int.reduceAdd, Int.reduceSub, Nat.reduceAdd, Nat.reduceLeDiff, f8]; rfl, rfl⟩
    · have hok3 := EOK.ok hok2 hM he
      exact ⟨_, by simp (maxDischargeDepth := 9) only [go_sem, ↓reduceIte, reduceCtorEq, Nat.reduceEqDiff, Int.reduceLE, Int.reduceLT, Int.reduceEq, Int.reduceNeg, Int.reduceAdd, Int.reduceSub, Nat.reduceAdd, Nat.reduceLeDiff, hM, f3, f9, f11, f12, f13, kx _ hok3, odd xs t _ hok3 hxs hxo]; rfl, rfl⟩
  · rw [hw, ← AH.ext_nil (h := g2)]
    have hkl := kids_loop hok2 hM hks5 hks t2 (.vs (encSs l) t3) (.vs (encSs l) t') er op s (some (.rows 5 [[.str [], .str [], .int .i64 0, .vs [] .shared, .int .i64 0]])) ks.length 0 [] .exact [] [] (by omega) (by omega) (by simp) (by simp) (GT_exact ..) (by intro y hy; cases hy)
    simp only [encEs, Int.natCast_zero, Int.ofNat_zero] at hkl
    simp (maxDischargeDepth := 9) only [go_sem, ↓reduceIte, reduceCtorEq, Nat.reduceEqDiff, Int.reduceLE, Int.reduceLT, Int.reduceEq, Int.reduceNeg, Int.reduceAdd, Int.reduceSub, Nat.reduceAdd, Nat.reduceLeDiff, encZ, hM, f0, f1, f2, f3, f9]
    refine W_loop hkl ?_
    rintro e fr h' (⟨rfl, f8, l', e', rfl, he⟩ | ⟨rfl, f3, f9, f11, f12, f13, xs, t, G, e', hxs, hxo, rfl, he⟩)
    · exact ⟨_, by simp (maxDischargeDepth := 9) only [go_sem, ↓reduceIte, reduceCtorEq, Nat.reduceEqDiff, Int.reduceLE, Int.reduceLT, Int.reduceEq, Int.reduceNeg, Int.reduceAdd, Int.reduceSub, Nat.reduceAdd, Nat.reduceLeDiff, f8]; rfl, rfl⟩
    · have hok3 := EOK.ok hok2 hM he
      rcases her with ⟨p, n, rfl⟩ | ⟨n, rfl⟩
      · unfold atE at f12
        exact ⟨_, by simp (maxDischargeDepth := 9) only [go_sem, ↓reduceIte, reduceCtorEq, Nat.reduceEqDiff, Int.reduceLE, Int.reduceLT, Int.reduceEq, Int.reduceNeg, Int.reduceAdd, Int.reduceSub, Nat.reduceAdd, Nat.reduceLeDiff, hM, f3, f9, f11, f12, f13, odd xs t _ hok3 hxs hxo]; rfl, rfl⟩
      · unfold noE at f12
        exact ⟨_, by simp (maxDischargeDepth := 9) only [go_sem, ↓reduceIte, reduceCtorEq, Nat.reduceEqDiff, Int.reduceLE, Int.reduceLT, Int.reduceEq, Int.reduceNeg, Int.reduceAdd, Int.reduceSub, Nat.reduceAdd, Nat.reduceLeDiff, hM, f3, f9, f11, f12, f13, odd xs t _ hok3 hxs hxo]; rfl, rfl⟩
end Go.Proofs.YtfahpmlckobpmaaGreatDoor.Pi
