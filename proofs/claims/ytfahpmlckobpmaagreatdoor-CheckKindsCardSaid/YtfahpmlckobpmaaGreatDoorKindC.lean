/-
  The kind of an expression: the document's function, for every expression. Printed by gen_k4.py.
-/
import Derived.Test.YtfahpmlckobpmaaGreatDoorKindB
set_option linter.unusedSimpArgs false
set_option linter.unusedVariables false
set_option linter.unusedSectionVars false
namespace Go.Proofs.YtfahpmlckobpmaaGreatDoor.Pi
open Go

theorem wl1 : IntKind.i64.wrap 1 = 1 := by decide
theorem wl2 : IntKind.i64.wrap 2 = 2 := by decide
theorem wl3 : IntKind.i64.wrap 3 = 3 := by decide

def resR : KD → AV
  | .ok b => .tup [.int .i64 (if b then 1 else 0), .int .i64 0, .int .i64 (-1)]
  | .err p n => .tup [.int .i64 0, .int .i64 n, .int .i64 p]
def errN : KD → Prop
  | .ok _ => True
  | .err _ n => n = 1 ∨ n = 30 ∨ n = 32
theorem mustN {r : KD × Int} (h : errN r.1) (t : Bool) : errN (mustS r t) := by
  obtain ⟨k, p⟩ := r
  cases k with
  | err q n => exact h
  | ok b => simp only [mustS]; split <;> simp [errN]
theorem eachN (t : Bool) : ∀ {rs : List (KD × Int)}, (∀ r ∈ rs, errN r.1) → errN (eachS t rs)
  | [], _ => trivial
  | r :: rs, h => by
    have h1 := mustN (h r (by simp)) t
    simp only [eachS]
    cases hm : mustS r t with
    | err p n => rw [hm] at h1; exact h1
    | ok b => exact eachN t fun r hr => h r (by simp [hr])
theorem alikeN {a b : KD × Int} (h : errN a.1) (h' : errN b.1) : errN (alikeS a b) := by
  obtain ⟨k, p⟩ := a
  cases k with
  | err q n => exact h
  | ok x => exact mustN h' x
theorem toN {r : KD} (h : errN r) (b : Bool) : errN (r.to b) := by cases r <;> first | exact h | trivial
theorem kOpN {l : List Slt} {op nm : List Nat} {pos : Int} {rs : List (KD × Int)} (h : ∀ r ∈ rs, errN r.1) : errN (kOp l op nm pos rs) := by
  unfold kOp
  repeat' split
  all_goals first
    | trivial
    | exact toN (eachN _ h) _
    | exact toN (alikeN (h _ (by simp)) (h _ (by simp))) _
    | exact alikeN (h _ (by simp)) (h _ (by simp))
    | (simp [errN]; done)
    | (rename_i hm; have := mustN (h _ (List.mem_cons_self ..)) true; rw [hm] at this; exact this)
theorem kN (l : List Slt) : ∀ x, errN (kS l x) := by
  refine Xp.ind fun x hk => ?_
  rw [kS_eq]
  refine kOpN fun r hr => ?_
  rw [kSs_map] at hr
  obtain ⟨y, hy, rfl⟩ := List.mem_map.1 hr
  exact hk y hy

def RefC (l : List Slt) (tok : Tok) (x : Xp) : Prop := ∀ g : AH, g.ok → C EE K_ref10_Kind [.agg [.str x.op, .str x.nm, .int .i64 x.n, .vs (encEs x.kids) .shared, .int .i64 x.pos], .vs (encSs l) tok] g = some (resR (kS l x), g)

section
variable {l : List Slt} {tok : Tok} {g : AH}
theorem rfind_loop (nm : List Nat) (hl : l.length ≤ 100000) : ∀ (d i : Nat), l.length - i ≤ d → i ≤ l.length →
    ∃ e fr, LP EE L_ref10_Find_0 [0, 1, 5] [(0, .vs (encSs l) tok), (1, .str nm), (5, .int .i64 (i : Int))] g = some (e, fr, g) ∧
      ((e = .exit 0 ∧ findS (l.drop i) nm i = -1) ∨ (e = .ret ∧ fget fr 4 = .int .i64 (findS (l.drop i) nm i))) := by
  intro d
  induction d with
  | zero =>
    intro i hd hi
    have hlt : ¬ ((i : Int) < l.length) := by omega
    exact ⟨_, lp_mk (by rw [L_ref10_Find_0_eq]; simp (maxDischargeDepth := 9) only [go_sem, ↓reduceIte, reduceCtorEq, Nat.reduceEqDiff, Int.reduceLE, Int.reduceLT, Int.reduceEq, Int.reduceNeg, Int.reduceAdd, Int.reduceSub, Nat.reduceAdd, Nat.reduceLeDiff, encSs_len, hlt]; rfl) (.inl ⟨rfl, by rw [List.drop_of_length_le (by omega)]; rfl⟩)⟩
  | succ d ih =>
    intro i hd hi
    by_cases hlt' : i < l.length
    · have hlt : ((i : Int) < l.length) := by omega
      have h0 : (0 : Int) ≤ i := by omega
      have hw : IntKind.i64.wrap ((i : Int) + 1) = ((i + 1 : Nat) : Int) := by rw [w64s] <;> omega
      have hg := encSs_get hlt'
      rw [List.drop_eq_getElem_cons hlt', findS]
      simp only [encS] at hg
      by_cases hn : l[i].name = nm
      · have hdn := decide_eq_true hn
        exact ⟨_, lp_mk (by rw [L_ref10_Find_0_eq]; simp (maxDischargeDepth := 9) only [go_sem, ↓reduceIte, reduceCtorEq, Nat.reduceEqDiff, Int.reduceLE, Int.reduceLT, Int.reduceEq, Int.reduceNeg, Int.reduceAdd, Int.reduceSub, Nat.reduceAdd, Nat.reduceLeDiff, encSs_len, hlt, h0, Int.toNat_natCast, hg, strOp, hdn]; rfl) (.inr ⟨rfl, by simp only [hn, if_true]; rfl⟩)⟩
      · obtain ⟨e, fr, q1, q2⟩ := ih (i + 1) (by omega) (by omega)
        refine ⟨e, fr, ?_, by simpa only [hn, if_false] using q2⟩
        rw [L_ref10_Find_0_eq]
        simp (maxDischargeDepth := 9) only [go_sem, ↓reduceIte, reduceCtorEq, Nat.reduceEqDiff, Int.reduceLE, Int.reduceLT, Int.reduceEq, Int.reduceNeg, Int.reduceAdd, Int.reduceSub, Nat.reduceAdd, Nat.reduceLeDiff, encSs_len, hlt, h0, Int.toNat_natCast, hg, strOp, decide_eq_false hn, hw, q1]
    · have hlt : ¬ ((i : Int) < l.length) := by omega
      exact ⟨_, lp_mk (by rw [L_ref10_Find_0_eq]; simp (maxDischargeDepth := 9) only [go_sem, ↓reduceIte, reduceCtorEq, Nat.reduceEqDiff, Int.reduceLE, Int.reduceLT, Int.reduceEq, Int.reduceNeg, Int.reduceAdd, Int.reduceSub, Nat.reduceAdd, Nat.reduceLeDiff, encSs_len, hlt]; rfl) (.inl ⟨rfl, by rw [List.drop_of_length_le (by omega)]; rfl⟩)⟩
theorem rfind_c (hok : g.ok) (nm : List Nat) (hl : l.length ≤ 100000) : C EE K_ref10_Find [.vs (encSs l) tok, .str nm] g = some (.int .i64 (findS l nm 0), g) := by
  obtain ⟨e, fr, q1, q2⟩ := rfind_loop (g := g) (tok := tok) nm hl l.length 0 (by omega) (by omega)
  rw [C_XS' E_ref10_Find _ _ rfl]
  simp only [List.drop_zero, Int.natCast_zero, Int.ofNat_zero] at q1 q2
  rcases q2 with ⟨rfl, h2⟩ | ⟨rfl, f4⟩
  · simp (maxDischargeDepth := 9) only [go_sem, ↓reduceIte, reduceCtorEq, Nat.reduceEqDiff, Int.reduceLE, Int.reduceLT, Int.reduceEq, Int.reduceNeg, Int.reduceAdd, Int.reduceSub, Nat.reduceAdd, Nat.reduceLeDiff, argFr, hok, AH.ext_nil, encSs_len, q1, h2]
  · simp (maxDischargeDepth := 9) only [go_sem, ↓reduceIte, reduceCtorEq, Nat.reduceEqDiff, Int.reduceLE, Int.reduceLT, Int.reduceEq, Int.reduceNeg, Int.reduceAdd, Int.reduceSub, Nat.reduceAdd, Nat.reduceLeDiff, argFr, hok, AH.ext_nil, encSs_len, q1, f4]
end

set_option maxHeartbeats 8000000 in
set_option maxRecDepth 8000 in
theorem ref_all {l : List Slt} {tok : Tok} (hl : l.length ≤ 100000) : ∀ x, RefC l tok x := by
  refine Xp.ind fun x hk => ?_
  intro g hok
  rw [kS_eq]
  by_cases hw : x.kids.length = wantN x.op
  · rw [C_XS' E_ref10_Kind _ _ rfl]
    rcases op_cases x.op with e | e | e | e | e | e | e | e | e | e | e | e | e | e | e | e | e | e | e | ⟨h1, h2, h3, h4, h5, h6, h7, h8, h9, i1, i2, i3, i4, i5, i6, i7, i8, i9, j1⟩
    · rw [e] at hw ⊢
      have hn : x.kids = [] := List.eq_nil_of_length_eq_zero hw
      rw [hn]
      simp (maxDischargeDepth := 9) only [go_sem, ↓reduceIte, reduceCtorEq, Nat.reduceEqDiff, Int.reduceLE, Int.reduceLT, Int.reduceEq, Int.reduceNeg, Int.reduceAdd, Int.reduceSub, Nat.reduceAdd, Nat.reduceLeDiff, argFr, hok, AH.ext_nil, strOp, List.cons.injEq, false_and, and_false, or_self, or_false, false_or, true_or, or_true, encEs_len, Int.natCast_zero, Int.natCast_one, Int.cast_ofNat_Int, nat2, nat3, L_ref10_Kind_0_eq, wl1, wl2, wl3, Int.toNat_zero, Int.reduceToNat, Int.natCast_add, Int.reduceMul, Nat.reduceMul, ge_iff_le, encEs, kSs, kOp, resR]
    · rw [e] at hw ⊢
      have hn : x.kids = [] := List.eq_nil_of_length_eq_zero hw
      rw [hn]
      simp (maxDischargeDepth := 9) only [go_sem, ↓reduceIte, reduceCtorEq, Nat.reduceEqDiff, Int.reduceLE, Int.reduceLT, Int.reduceEq, Int.reduceNeg, Int.reduceAdd, Int.reduceSub, Nat.reduceAdd, Nat.reduceLeDiff, argFr, hok, AH.ext_nil, strOp, List.cons.injEq, false_and, and_false, or_self, or_false, false_or, true_or, or_true, encEs_len, Int.natCast_zero, Int.natCast_one, Int.cast_ofNat_Int, nat2, nat3, L_ref10_Kind_0_eq, wl1, wl2, wl3, Int.toNat_zero, Int.reduceToNat, Int.natCast_add, Int.reduceMul, Nat.reduceMul, ge_iff_le, encEs, kSs, kOp, resR]
    · rw [e] at hw ⊢
      have hn : x.kids = [] := List.eq_nil_of_length_eq_zero hw
      rw [hn]
      simp (maxDischargeDepth := 9) only [go_sem, ↓reduceIte, reduceCtorEq, Nat.reduceEqDiff, Int.reduceLE, Int.reduceLT, Int.reduceEq, Int.reduceNeg, Int.reduceAdd, Int.reduceSub, Nat.reduceAdd, Nat.reduceLeDiff, argFr, hok, AH.ext_nil, strOp, List.cons.injEq, false_and, and_false, or_self, or_false, false_or, true_or, or_true, encEs_len, Int.natCast_zero, Int.natCast_one, Int.cast_ofNat_Int, nat2, nat3, L_ref10_Kind_0_eq, wl1, wl2, wl3, Int.toNat_zero, Int.reduceToNat, Int.natCast_add, Int.reduceMul, Nat.reduceMul, ge_iff_le, encEs, kSs, kOp, resR]
    · rw [e] at hw ⊢
      have hn : x.kids = [] := List.eq_nil_of_length_eq_zero hw
      rw [hn]
      have hF := rfind_c (g := g) (tok := tok) hok x.nm hl
      rcases findS_cases l x.nm 0 with hf | ⟨j, hj, hf⟩
      · rw [hf] at hF
        simp (maxDischargeDepth := 9) only [go_sem, ↓reduceIte, reduceCtorEq, Nat.reduceEqDiff, Int.reduceLE, Int.reduceLT, Int.reduceEq, Int.reduceNeg, Int.reduceAdd, Int.reduceSub, Nat.reduceAdd, Nat.reduceLeDiff, argFr, hok, AH.ext_nil, strOp, List.cons.injEq, false_and, and_false, or_self, or_false, false_or, true_or, or_true, encEs_len, Int.natCast_zero, Int.natCast_one, Int.cast_ofNat_Int, nat2, nat3, L_ref10_Kind_0_eq, wl1, wl2, wl3, Int.toNat_zero, Int.reduceToNat, Int.natCast_add, Int.reduceMul, Nat.reduceMul, ge_iff_le, encEs, kSs, kOp, resR, hF, hf]
      · rw [Nat.zero_add] at hf
        rw [hf] at hF
        have hneg : ¬ ((j : Int) < 0) := by omega
        have h0 : (0 : Int) ≤ j := by omega
        have hg := encSs_get hj
        simp only [encS] at hg
        have hk' : kOp l [110, 97, 109, 101] x.nm x.pos (kSs l []) = .ok l[j].bool := by simp [kOp, kSs, hf, hneg, get_some hj]
        rw [hk']
        cases hb : l[j].bool
        all_goals
          rw [hb] at hg
          simp (maxDischargeDepth := 9) only [go_sem, ↓reduceIte, reduceCtorEq, Nat.reduceEqDiff, Int.reduceLE, Int.reduceLT, Int.reduceEq, Int.reduceNeg, Int.reduceAdd, Int.reduceSub, Nat.reduceAdd, Nat.reduceLeDiff, argFr, hok, AH.ext_nil, strOp, List.cons.injEq, false_and, and_false, or_self, or_false, false_or, true_or, or_true, encEs_len, Int.natCast_zero, Int.natCast_one, Int.cast_ofNat_Int, nat2, nat3, L_ref10_Kind_0_eq, wl1, wl2, wl3, Int.toNat_zero, Int.reduceToNat, Int.natCast_add, Int.reduceMul, Nat.reduceMul, ge_iff_le, encEs, resR, hF, hneg, h0, Int.toNat_natCast, hg]
    · rw [e] at hw ⊢
      obtain ⟨a, hn⟩ : ∃ a, x.kids = [a] := by
        match hx : x.kids, hw with
        | [a], _ => exact ⟨a, rfl⟩
      rw [hn] at hk ⊢
      have ha := hk a (by simp)
      have na := kN l a
      have ra := ha g hok
      cases qa : kS l a with
      | err p n =>
        rw [qa] at ra na
        simp only [resR] at ra
        have nn : (n = 0) = False := by rcases na with rfl | rfl | rfl <;> simp
        simp (maxDischargeDepth := 9) only [go_sem, ↓reduceIte, reduceCtorEq, Nat.reduceEqDiff, Int.reduceLE, Int.reduceLT, Int.reduceEq, Int.reduceNeg, Int.reduceAdd, Int.reduceSub, Nat.reduceAdd, Nat.reduceLeDiff, argFr, hok, AH.ext_nil, strOp, List.cons.injEq, false_and, and_false, or_self, or_false, false_or, true_or, or_true, encEs_len, Int.natCast_zero, Int.natCast_one, Int.cast_ofNat_Int, nat2, nat3, L_ref10_Kind_0_eq, wl1, wl2, wl3, Int.toNat_zero, Int.reduceToNat, Int.natCast_add, Int.reduceMul, Nat.reduceMul, ge_iff_le, encEs, encE_eq, kSs, kOp, eachS, alikeS, mustS, KD.to, resR, ra, qa, nn]
      | ok ba =>
        rw [qa] at ra
        simp only [resR] at ra
        cases ba
        · simp only [Bool.false_eq_true, if_false, if_true] at ra
          simp (maxDischargeDepth := 9) only [go_sem, ↓reduceIte, reduceCtorEq, Nat.reduceEqDiff, Int.reduceLE, Int.reduceLT, Int.reduceEq, Int.reduceNeg, Int.reduceAdd, Int.reduceSub, Nat.reduceAdd, Nat.reduceLeDiff, argFr, hok, AH.ext_nil, strOp, List.cons.injEq, false_and, and_false, or_self, or_false, false_or, true_or, or_true, encEs_len, Int.natCast_zero, Int.natCast_one, Int.cast_ofNat_Int, nat2, nat3, L_ref10_Kind_0_eq, wl1, wl2, wl3, Int.toNat_zero, Int.reduceToNat, Int.natCast_add, Int.reduceMul, Nat.reduceMul, ge_iff_le, encEs, encE_eq, kSs, kOp, eachS, alikeS, mustS, KD.to, resR, ra, qa, ]
        · simp only [Bool.false_eq_true, if_false, if_true] at ra
          simp (maxDischargeDepth := 9) only [go_sem, ↓reduceIte, reduceCtorEq, Nat.reduceEqDiff, Int.reduceLE, Int.reduceLT, Int.reduceEq, Int.reduceNeg, Int.reduceAdd, Int.reduceSub, Nat.reduceAdd, Nat.reduceLeDiff, argFr, hok, AH.ext_nil, strOp, List.cons.injEq, false_and, and_false, or_self, or_false, false_or, true_or, or_true, encEs_len, Int.natCast_zero, Int.natCast_one, Int.cast_ofNat_Int, nat2, nat3, L_ref10_Kind_0_eq, wl1, wl2, wl3, Int.toNat_zero, Int.reduceToNat, Int.natCast_add, Int.reduceMul, Nat.reduceMul, ge_iff_le, encEs, encE_eq, kSs, kOp, eachS, alikeS, mustS, KD.to, resR, ra, qa, ]
    · rw [e] at hw ⊢
      obtain ⟨a, hn⟩ : ∃ a, x.kids = [a] := by
        match hx : x.kids, hw with
        | [a], _ => exact ⟨a, rfl⟩
      rw [hn] at hk ⊢
      have ha := hk a (by simp)
      have na := kN l a
      have ra := ha g hok
      cases qa : kS l a with
      | err p n =>
        rw [qa] at ra na
        simp only [resR] at ra
        have nn : (n = 0) = False := by rcases na with rfl | rfl | rfl <;> simp
        simp (maxDischargeDepth := 9) only [go_sem, ↓reduceIte, reduceCtorEq, Nat.reduceEqDiff, Int.reduceLE, Int.reduceLT, Int.reduceEq, Int.reduceNeg, Int.reduceAdd, Int.reduceSub, Nat.reduceAdd, Nat.reduceLeDiff, argFr, hok, AH.ext_nil, strOp, List.cons.injEq, false_and, and_false, or_self, or_false, false_or, true_or, or_true, encEs_len, Int.natCast_zero, Int.natCast_one, Int.cast_ofNat_Int, nat2, nat3, L_ref10_Kind_0_eq, wl1, wl2, wl3, Int.toNat_zero, Int.reduceToNat, Int.natCast_add, Int.reduceMul, Nat.reduceMul, ge_iff_le, encEs, encE_eq, kSs, kOp, eachS, alikeS, mustS, KD.to, resR, ra, qa, nn]
      | ok ba =>
        rw [qa] at ra
        simp only [resR] at ra
        cases ba
        · simp only [Bool.false_eq_true, if_false, if_true] at ra
          simp (maxDischargeDepth := 9) only [go_sem, ↓reduceIte, reduceCtorEq, Nat.reduceEqDiff, Int.reduceLE, Int.reduceLT, Int.reduceEq, Int.reduceNeg, Int.reduceAdd, Int.reduceSub, Nat.reduceAdd, Nat.reduceLeDiff, argFr, hok, AH.ext_nil, strOp, List.cons.injEq, false_and, and_false, or_self, or_false, false_or, true_or, or_true, encEs_len, Int.natCast_zero, Int.natCast_one, Int.cast_ofNat_Int, nat2, nat3, L_ref10_Kind_0_eq, wl1, wl2, wl3, Int.toNat_zero, Int.reduceToNat, Int.natCast_add, Int.reduceMul, Nat.reduceMul, ge_iff_le, encEs, encE_eq, kSs, kOp, eachS, alikeS, mustS, KD.to, resR, ra, qa, ]
        · simp only [Bool.false_eq_true, if_false, if_true] at ra
          simp (maxDischargeDepth := 9) only [go_sem, ↓reduceIte, reduceCtorEq, Nat.reduceEqDiff, Int.reduceLE, Int.reduceLT, Int.reduceEq, Int.reduceNeg, Int.reduceAdd, Int.reduceSub, Nat.reduceAdd, Nat.reduceLeDiff, argFr, hok, AH.ext_nil, strOp, List.cons.injEq, false_and, and_false, or_self, or_false, false_or, true_or, or_true, encEs_len, Int.natCast_zero, Int.natCast_one, Int.cast_ofNat_Int, nat2, nat3, L_ref10_Kind_0_eq, wl1, wl2, wl3, Int.toNat_zero, Int.reduceToNat, Int.natCast_add, Int.reduceMul, Nat.reduceMul, ge_iff_le, encEs, encE_eq, kSs, kOp, eachS, alikeS, mustS, KD.to, resR, ra, qa, ]
    · rw [e] at hw ⊢
      obtain ⟨a, b, hn⟩ : ∃ a b, x.kids = [a, b] := by
        match hx : x.kids, hw with
        | [a, b], _ => exact ⟨a, b, rfl⟩
      rw [hn] at hk ⊢
      have ha := hk a (by simp)
      have na := kN l a
      have hb := hk b (by simp)
      have nb := kN l b
      have ra := ha g hok
      cases qa : kS l a with
      | err p n =>
        rw [qa] at ra na
        simp only [resR] at ra
        have nn : (n = 0) = False := by rcases na with rfl | rfl | rfl <;> simp
        simp (maxDischargeDepth := 9) only [go_sem, ↓reduceIte, reduceCtorEq, Nat.reduceEqDiff, Int.reduceLE, Int.reduceLT, Int.reduceEq, Int.reduceNeg, Int.reduceAdd, Int.reduceSub, Nat.reduceAdd, Nat.reduceLeDiff, argFr, hok, AH.ext_nil, strOp, List.cons.injEq, false_and, and_false, or_self, or_false, false_or, true_or, or_true, encEs_len, Int.natCast_zero, Int.natCast_one, Int.cast_ofNat_Int, nat2, nat3, L_ref10_Kind_0_eq, wl1, wl2, wl3, Int.toNat_zero, Int.reduceToNat, Int.natCast_add, Int.reduceMul, Nat.reduceMul, ge_iff_le, encEs, encE_eq, kSs, kOp, eachS, alikeS, mustS, KD.to, resR, ra, qa, nn]
      | ok ba =>
        rw [qa] at ra
        simp only [resR] at ra
        cases ba
        · simp only [Bool.false_eq_true, if_false, if_true] at ra
          have rb := hb g hok
          cases qb : kS l b with
          | err p n =>
            rw [qb] at rb nb
            simp only [resR] at rb
            have nn : (n = 0) = False := by rcases nb with rfl | rfl | rfl <;> simp
            simp (maxDischargeDepth := 9) only [go_sem, ↓reduceIte, reduceCtorEq, Nat.reduceEqDiff, Int.reduceLE, Int.reduceLT, Int.reduceEq, Int.reduceNeg, Int.reduceAdd, Int.reduceSub, Nat.reduceAdd, Nat.reduceLeDiff, argFr, hok, AH.ext_nil, strOp, List.cons.injEq, false_and, and_false, or_self, or_false, false_or, true_or, or_true, encEs_len, Int.natCast_zero, Int.natCast_one, Int.cast_ofNat_Int, nat2, nat3, L_ref10_Kind_0_eq, wl1, wl2, wl3, Int.toNat_zero, Int.reduceToNat, Int.natCast_add, Int.reduceMul, Nat.reduceMul, ge_iff_le, encEs, encE_eq, kSs, kOp, eachS, alikeS, mustS, KD.to, resR, ra, qa, rb, qb, nn]
          | ok bb =>
            rw [qb] at rb
            simp only [resR] at rb
            cases bb
            · simp only [Bool.false_eq_true, if_false, if_true] at rb
              simp (maxDischargeDepth := 9) only [go_sem, ↓reduceIte, reduceCtorEq, Nat.reduceEqDiff, Int.reduceLE, Int.reduceLT, Int.reduceEq, Int.reduceNeg, Int.reduceAdd, Int.reduceSub, Nat.reduceAdd, Nat.reduceLeDiff, argFr, hok, AH.ext_nil, strOp, List.cons.injEq, false_and, and_false, or_self, or_false, false_or, true_or, or_true, encEs_len, Int.natCast_zero, Int.natCast_one, Int.cast_ofNat_Int, nat2, nat3, L_ref10_Kind_0_eq, wl1, wl2, wl3, Int.toNat_zero, Int.reduceToNat, Int.natCast_add, Int.reduceMul, Nat.reduceMul, ge_iff_le, encEs, encE_eq, kSs, kOp, eachS, alikeS, mustS, KD.to, resR, ra, qa, rb, qb, ]
            · simp only [Bool.false_eq_true, if_false, if_true] at rb
              simp (maxDischargeDepth := 9) only [go_sem, ↓reduceIte, reduceCtorEq, Nat.reduceEqDiff, Int.reduceLE, Int.reduceLT, Int.reduceEq, Int.reduceNeg, Int.reduceAdd, Int.reduceSub, Nat.reduceAdd, Nat.reduceLeDiff, argFr, hok, AH.ext_nil, strOp, List.cons.injEq, false_and, and_false, or_self, or_false, false_or, true_or, or_true, encEs_len, Int.natCast_zero, Int.natCast_one, Int.cast_ofNat_Int, nat2, nat3, L_ref10_Kind_0_eq, wl1, wl2, wl3, Int.toNat_zero, Int.reduceToNat, Int.natCast_add, Int.reduceMul, Nat.reduceMul, ge_iff_le, encEs, encE_eq, kSs, kOp, eachS, alikeS, mustS, KD.to, resR, ra, qa, rb, qb, ]
        · simp only [Bool.false_eq_true, if_false, if_true] at ra
          have rb := hb g hok
          cases qb : kS l b with
          | err p n =>
            rw [qb] at rb nb
            simp only [resR] at rb
            have nn : (n = 0) = False := by rcases nb with rfl | rfl | rfl <;> simp
            simp (maxDischargeDepth := 9) only [go_sem, ↓reduceIte, reduceCtorEq, Nat.reduceEqDiff, Int.reduceLE, Int.reduceLT, Int.reduceEq, Int.reduceNeg, Int.reduceAdd, Int.reduceSub, Nat.reduceAdd, Nat.reduceLeDiff, argFr, hok, AH.ext_nil, strOp, List.cons.injEq, false_and, and_false, or_self, or_false, false_or, true_or, or_true, encEs_len, Int.natCast_zero, Int.natCast_one, Int.cast_ofNat_Int, nat2, nat3, L_ref10_Kind_0_eq, wl1, wl2, wl3, Int.toNat_zero, Int.reduceToNat, Int.natCast_add, Int.reduceMul, Nat.reduceMul, ge_iff_le, encEs, encE_eq, kSs, kOp, eachS, alikeS, mustS, KD.to, resR, ra, qa, rb, qb, nn]
          | ok bb =>
            rw [qb] at rb
            simp only [resR] at rb
            cases bb
            · simp only [Bool.false_eq_true, if_false, if_true] at rb
              simp (maxDischargeDepth := 9) only [go_sem, ↓reduceIte, reduceCtorEq, Nat.reduceEqDiff, Int.reduceLE, Int.reduceLT, Int.reduceEq, Int.reduceNeg, Int.reduceAdd, Int.reduceSub, Nat.reduceAdd, Nat.reduceLeDiff, argFr, hok, AH.ext_nil, strOp, List.cons.injEq, false_and, and_false, or_self, or_false, false_or, true_or, or_true, encEs_len, Int.natCast_zero, Int.natCast_one, Int.cast_ofNat_Int, nat2, nat3, L_ref10_Kind_0_eq, wl1, wl2, wl3, Int.toNat_zero, Int.reduceToNat, Int.natCast_add, Int.reduceMul, Nat.reduceMul, ge_iff_le, encEs, encE_eq, kSs, kOp, eachS, alikeS, mustS, KD.to, resR, ra, qa, rb, qb, ]
            · simp only [Bool.false_eq_true, if_false, if_true] at rb
              simp (maxDischargeDepth := 9) only [go_sem, ↓reduceIte, reduceCtorEq, Nat.reduceEqDiff, Int.reduceLE, Int.reduceLT, Int.reduceEq, Int.reduceNeg, Int.reduceAdd, Int.reduceSub, Nat.reduceAdd, Nat.reduceLeDiff, argFr, hok, AH.ext_nil, strOp, List.cons.injEq, false_and, and_false, or_self, or_false, false_or, true_or, or_true, encEs_len, Int.natCast_zero, Int.natCast_one, Int.cast_ofNat_Int, nat2, nat3, L_ref10_Kind_0_eq, wl1, wl2, wl3, Int.toNat_zero, Int.reduceToNat, Int.natCast_add, Int.reduceMul, Nat.reduceMul, ge_iff_le, encEs, encE_eq, kSs, kOp, eachS, alikeS, mustS, KD.to, resR, ra, qa, rb, qb, ]
    · rw [e] at hw ⊢
      obtain ⟨a, b, hn⟩ : ∃ a b, x.kids = [a, b] := by
        match hx : x.kids, hw with
        | [a, b], _ => exact ⟨a, b, rfl⟩
      rw [hn] at hk ⊢
      have ha := hk a (by simp)
      have na := kN l a
      have hb := hk b (by simp)
      have nb := kN l b
      have ra := ha g hok
      cases qa : kS l a with
      | err p n =>
        rw [qa] at ra na
        simp only [resR] at ra
        have nn : (n = 0) = False := by rcases na with rfl | rfl | rfl <;> simp
        simp (maxDischargeDepth := 9) only [go_sem, ↓reduceIte, reduceCtorEq, Nat.reduceEqDiff, Int.reduceLE, Int.reduceLT, Int.reduceEq, Int.reduceNeg, Int.reduceAdd, Int.reduceSub, Nat.reduceAdd, Nat.reduceLeDiff, argFr, hok, AH.ext_nil, strOp, List.cons.injEq, false_and, and_false, or_self, or_false, false_or, true_or, or_true, encEs_len, Int.natCast_zero, Int.natCast_one, Int.cast_ofNat_Int, nat2, nat3, L_ref10_Kind_0_eq, wl1, wl2, wl3, Int.toNat_zero, Int.reduceToNat, Int.natCast_add, Int.reduceMul, Nat.reduceMul, ge_iff_le, encEs, encE_eq, kSs, kOp, eachS, alikeS, mustS, KD.to, resR, ra, qa, nn]
      | ok ba =>
        rw [qa] at ra
        simp only [resR] at ra
        cases ba
        · simp only [Bool.false_eq_true, if_false, if_true] at ra
          have rb := hb g hok
          cases qb : kS l b with
          | err p n =>
            rw [qb] at rb nb
            simp only [resR] at rb
            have nn : (n = 0) = False := by rcases nb with rfl | rfl | rfl <;> simp
            simp (maxDischargeDepth := 9) only [go_sem, ↓reduceIte, reduceCtorEq, Nat.reduceEqDiff, Int.reduceLE, Int.reduceLT, Int.reduceEq, Int.reduceNeg, Int.reduceAdd, Int.reduceSub, Nat.reduceAdd, Nat.reduceLeDiff, argFr, hok, AH.ext_nil, strOp, List.cons.injEq, false_and, and_false, or_self, or_false, false_or, true_or, or_true, encEs_len, Int.natCast_zero, Int.natCast_one, Int.cast_ofNat_Int, nat2, nat3, L_ref10_Kind_0_eq, wl1, wl2, wl3, Int.toNat_zero, Int.reduceToNat, Int.natCast_add, Int.reduceMul, Nat.reduceMul, ge_iff_le, encEs, encE_eq, kSs, kOp, eachS, alikeS, mustS, KD.to, resR, ra, qa, rb, qb, nn]
          | ok bb =>
            rw [qb] at rb
            simp only [resR] at rb
            cases bb
            · simp only [Bool.false_eq_true, if_false, if_true] at rb
              simp (maxDischargeDepth := 9) only [go_sem, ↓reduceIte, reduceCtorEq, Nat.reduceEqDiff, Int.reduceLE, Int.reduceLT, Int.reduceEq, Int.reduceNeg, Int.reduceAdd, Int.reduceSub, Nat.reduceAdd, Nat.reduceLeDiff, argFr, hok, AH.ext_nil, strOp, List.cons.injEq, false_and, and_false, or_self, or_false, false_or, true_or, or_true, encEs_len, Int.natCast_zero, Int.natCast_one, Int.cast_ofNat_Int, nat2, nat3, L_ref10_Kind_0_eq, wl1, wl2, wl3, Int.toNat_zero, Int.reduceToNat, Int.natCast_add, Int.reduceMul, Nat.reduceMul, ge_iff_le, encEs, encE_eq, kSs, kOp, eachS, alikeS, mustS, KD.to, resR, ra, qa, rb, qb, ]
            · simp only [Bool.false_eq_true, if_false, if_true] at rb
              simp (maxDischargeDepth := 9) only [go_sem, ↓reduceIte, reduceCtorEq, Nat.reduceEqDiff, Int.reduceLE, Int.reduceLT, Int.reduceEq, Int.reduceNeg, Int.reduceAdd, Int.reduceSub, Nat.reduceAdd, Nat.reduceLeDiff, argFr, hok, AH.ext_nil, strOp, List.cons.injEq, false_and, and_false, or_self, or_false, false_or, true_or, or_true, encEs_len, Int.natCast_zero, Int.natCast_one, Int.cast_ofNat_Int, nat2, nat3, L_ref10_Kind_0_eq, wl1, wl2, wl3, Int.toNat_zero, Int.reduceToNat, Int.natCast_add, Int.reduceMul, Nat.reduceMul, ge_iff_le, encEs, encE_eq, kSs, kOp, eachS, alikeS, mustS, KD.to, resR, ra, qa, rb, qb, ]
        · simp only [Bool.false_eq_true, if_false, if_true] at ra
          have rb := hb g hok
          cases qb : kS l b with
          | err p n =>
            rw [qb] at rb nb
            simp only [resR] at rb
            have nn : (n = 0) = False := by rcases nb with rfl | rfl | rfl <;> simp
            simp (maxDischargeDepth := 9) only [go_sem, ↓reduceIte, reduceCtorEq, Nat.reduceEqDiff, Int.reduceLE, Int.reduceLT, Int.reduceEq, Int.reduceNeg, Int.reduceAdd, Int.reduceSub, Nat.reduceAdd, Nat.reduceLeDiff, argFr, hok, AH.ext_nil, strOp, List.cons.injEq, false_and, and_false, or_self, or_false, false_or, true_or, or_true, encEs_len, Int.natCast_zero, Int.natCast_one, Int.cast_ofNat_Int, nat2, nat3, L_ref10_Kind_0_eq, wl1, wl2, wl3, Int.toNat_zero, Int.reduceToNat, Int.natCast_add, Int.reduceMul, Nat.reduceMul, ge_iff_le, encEs, encE_eq, kSs, kOp, eachS, alikeS, mustS, KD.to, resR, ra, qa, rb, qb, nn]
          | ok bb =>
            rw [qb] at rb
            simp only [resR] at rb
            cases bb
            · simp only [Bool.false_eq_true, if_false, if_true] at rb
              simp (maxDischargeDepth := 9) only [go_sem, ↓reduceIte, reduceCtorEq, Nat.reduceEqDiff, Int.reduceLE, Int.reduceLT, Int.reduceEq, Int.reduceNeg, Int.reduceAdd, Int.reduceSub, Nat.reduceAdd, Nat.reduceLeDiff, argFr, hok, AH.ext_nil, strOp, List.cons.injEq, false_and, and_false, or_self, or_false, false_or, true_or, or_true, encEs_len, Int.natCast_zero, Int.natCast_one, Int.cast_ofNat_Int, nat2, nat3, L_ref10_Kind_0_eq, wl1, wl2, wl3, Int.toNat_zero, Int.reduceToNat, Int.natCast_add, Int.reduceMul, Nat.reduceMul, ge_iff_le, encEs, encE_eq, kSs, kOp, eachS, alikeS, mustS, KD.to, resR, ra, qa, rb, qb, ]
            · simp only [Bool.false_eq_true, if_false, if_true] at rb
              simp (maxDischargeDepth := 9) only [go_sem, ↓reduceIte, reduceCtorEq, Nat.reduceEqDiff, Int.reduceLE, Int.reduceLT, Int.reduceEq, Int.reduceNeg, Int.reduceAdd, Int.reduceSub, Nat.reduceAdd, Nat.reduceLeDiff, argFr, hok, AH.ext_nil, strOp, List.cons.injEq, false_and, and_false, or_self, or_false, false_or, true_or, or_true, encEs_len, Int.natCast_zero, Int.natCast_one, Int.cast_ofNat_Int, nat2, nat3, L_ref10_Kind_0_eq, wl1, wl2, wl3, Int.toNat_zero, Int.reduceToNat, Int.natCast_add, Int.reduceMul, Nat.reduceMul, ge_iff_le, encEs, encE_eq, kSs, kOp, eachS, alikeS, mustS, KD.to, resR, ra, qa, rb, qb, ]
    · rw [e] at hw ⊢
      obtain ⟨a, b, hn⟩ : ∃ a b, x.kids = [a, b] := by
        match hx : x.kids, hw with
        | [a, b], _ => exact ⟨a, b, rfl⟩
      rw [hn] at hk ⊢
      have ha := hk a (by simp)
      have na := kN l a
      have hb := hk b (by simp)
      have nb := kN l b
      have ra := ha g hok
      cases qa : kS l a with
      | err p n =>
        rw [qa] at ra na
        simp only [resR] at ra
        have nn : (n = 0) = False := by rcases na with rfl | rfl | rfl <;> simp
        simp (maxDischargeDepth := 9) only [go_sem, ↓reduceIte, reduceCtorEq, Nat.reduceEqDiff, Int.reduceLE, Int.reduceLT, Int.reduceEq, Int.reduceNeg, Int.reduceAdd, Int.reduceSub, Nat.reduceAdd, Nat.reduceLeDiff, argFr, hok, AH.ext_nil, strOp, List.cons.injEq, false_and, and_false, or_self, or_false, false_or, true_or, or_true, encEs_len, Int.natCast_zero, Int.natCast_one, Int.cast_ofNat_Int, nat2, nat3, L_ref10_Kind_0_eq, wl1, wl2, wl3, Int.toNat_zero, Int.reduceToNat, Int.natCast_add, Int.reduceMul, Nat.reduceMul, ge_iff_le, encEs, encE_eq, kSs, kOp, eachS, alikeS, mustS, KD.to, resR, ra, qa, nn]
      | ok ba =>
        rw [qa] at ra
        simp only [resR] at ra
        cases ba
        · simp only [Bool.false_eq_true, if_false, if_true] at ra
          have rb := hb g hok
          cases qb : kS l b with
          | err p n =>
            rw [qb] at rb nb
            simp only [resR] at rb
            have nn : (n = 0) = False := by rcases nb with rfl | rfl | rfl <;> simp
            simp (maxDischargeDepth := 9) only [go_sem, ↓reduceIte, reduceCtorEq, Nat.reduceEqDiff, Int.reduceLE, Int.reduceLT, Int.reduceEq, Int.reduceNeg, Int.reduceAdd, Int.reduceSub, Nat.reduceAdd, Nat.reduceLeDiff, argFr, hok, AH.ext_nil, strOp, List.cons.injEq, false_and, and_false, or_self, or_false, false_or, true_or, or_true, encEs_len, Int.natCast_zero, Int.natCast_one, Int.cast_ofNat_Int, nat2, nat3, L_ref10_Kind_0_eq, wl1, wl2, wl3, Int.toNat_zero, Int.reduceToNat, Int.natCast_add, Int.reduceMul, Nat.reduceMul, ge_iff_le, encEs, encE_eq, kSs, kOp, eachS, alikeS, mustS, KD.to, resR, ra, qa, rb, qb, nn]
          | ok bb =>
            rw [qb] at rb
            simp only [resR] at rb
            cases bb
            · simp only [Bool.false_eq_true, if_false, if_true] at rb
              simp (maxDischargeDepth := 9) only [go_sem, ↓reduceIte, reduceCtorEq, Nat.reduceEqDiff, Int.reduceLE, Int.reduceLT, Int.reduceEq, Int.reduceNeg, Int.reduceAdd, Int.reduceSub, Nat.reduceAdd, Nat.reduceLeDiff, argFr, hok, AH.ext_nil, strOp, List.cons.injEq, false_and, and_false, or_self, or_false, false_or, true_or, or_true, encEs_len, Int.natCast_zero, Int.natCast_one, Int.cast_ofNat_Int, nat2, nat3, L_ref10_Kind_0_eq, wl1, wl2, wl3, Int.toNat_zero, Int.reduceToNat, Int.natCast_add, Int.reduceMul, Nat.reduceMul, ge_iff_le, encEs, encE_eq, kSs, kOp, eachS, alikeS, mustS, KD.to, resR, ra, qa, rb, qb, ]
            · simp only [Bool.false_eq_true, if_false, if_true] at rb
              simp (maxDischargeDepth := 9) only [go_sem, ↓reduceIte, reduceCtorEq, Nat.reduceEqDiff, Int.reduceLE, Int.reduceLT, Int.reduceEq, Int.reduceNeg, Int.reduceAdd, Int.reduceSub, Nat.reduceAdd, Nat.reduceLeDiff, argFr, hok, AH.ext_nil, strOp, List.cons.injEq, false_and, and_false, or_self, or_false, false_or, true_or, or_true, encEs_len, Int.natCast_zero, Int.natCast_one, Int.cast_ofNat_Int, nat2, nat3, L_ref10_Kind_0_eq, wl1, wl2, wl3, Int.toNat_zero, Int.reduceToNat, Int.natCast_add, Int.reduceMul, Nat.reduceMul, ge_iff_le, encEs, encE_eq, kSs, kOp, eachS, alikeS, mustS, KD.to, resR, ra, qa, rb, qb, ]
        · simp only [Bool.false_eq_true, if_false, if_true] at ra
          have rb := hb g hok
          cases qb : kS l b with
          | err p n =>
            rw [qb] at rb nb
            simp only [resR] at rb
            have nn : (n = 0) = False := by rcases nb with rfl | rfl | rfl <;> simp
            simp (maxDischargeDepth := 9) only [go_sem, ↓reduceIte, reduceCtorEq, Nat.reduceEqDiff, Int.reduceLE, Int.reduceLT, Int.reduceEq, Int.reduceNeg, Int.reduceAdd, Int.reduceSub, Nat.reduceAdd, Nat.reduceLeDiff, argFr, hok, AH.ext_nil, strOp, List.cons.injEq, false_and, and_false, or_self, or_false, false_or, true_or, or_true, encEs_len, Int.natCast_zero, Int.natCast_one, Int.cast_ofNat_Int, nat2, nat3, L_ref10_Kind_0_eq, wl1, wl2, wl3, Int.toNat_zero, Int.reduceToNat, Int.natCast_add, Int.reduceMul, Nat.reduceMul, ge_iff_le, encEs, encE_eq, kSs, kOp, eachS, alikeS, mustS, KD.to, resR, ra, qa, rb, qb, nn]
          | ok bb =>
            rw [qb] at rb
            simp only [resR] at rb
            cases bb
            · simp only [Bool.false_eq_true, if_false, if_true] at rb
              simp (maxDischargeDepth := 9) only [go_sem, ↓reduceIte, reduceCtorEq, Nat.reduceEqDiff, Int.reduceLE, Int.reduceLT, Int.reduceEq, Int.reduceNeg, Int.reduceAdd, Int.reduceSub, Nat.reduceAdd, Nat.reduceLeDiff, argFr, hok, AH.ext_nil, strOp, List.cons.injEq, false_and, and_false, or_self, or_false, false_or, true_or, or_true, encEs_len, Int.natCast_zero, Int.natCast_one, Int.cast_ofNat_Int, nat2, nat3, L_ref10_Kind_0_eq, wl1, wl2, wl3, Int.toNat_zero, Int.reduceToNat, Int.natCast_add, Int.reduceMul, Nat.reduceMul, ge_iff_le, encEs, encE_eq, kSs, kOp, eachS, alikeS, mustS, KD.to, resR, ra, qa, rb, qb, ]
            · simp only [Bool.false_eq_true, if_false, if_true] at rb
              simp (maxDischargeDepth := 9) only [go_sem, ↓reduceIte, reduceCtorEq, Nat.reduceEqDiff, Int.reduceLE, Int.reduceLT, Int.reduceEq, Int.reduceNeg, Int.reduceAdd, Int.reduceSub, Nat.reduceAdd, Nat.reduceLeDiff, argFr, hok, AH.ext_nil, strOp, List.cons.injEq, false_and, and_false, or_self, or_false, false_or, true_or, or_true, encEs_len, Int.natCast_zero, Int.natCast_one, Int.cast_ofNat_Int, nat2, nat3, L_ref10_Kind_0_eq, wl1, wl2, wl3, Int.toNat_zero, Int.reduceToNat, Int.natCast_add, Int.reduceMul, Nat.reduceMul, ge_iff_le, encEs, encE_eq, kSs, kOp, eachS, alikeS, mustS, KD.to, resR, ra, qa, rb, qb, ]
    · rw [e] at hw ⊢
      obtain ⟨a, b, hn⟩ : ∃ a b, x.kids = [a, b] := by
        match hx : x.kids, hw with
        | [a, b], _ => exact ⟨a, b, rfl⟩
      rw [hn] at hk ⊢
      have ha := hk a (by simp)
      have na := kN l a
      have hb := hk b (by simp)
      have nb := kN l b
      have ra := ha g hok
      cases qa : kS l a with
      | err p n =>
        rw [qa] at ra na
        simp only [resR] at ra
        have nn : (n = 0) = False := by rcases na with rfl | rfl | rfl <;> simp
        simp (maxDischargeDepth := 9) only [go_sem, ↓reduceIte, reduceCtorEq, Nat.reduceEqDiff, Int.reduceLE, Int.reduceLT, Int.reduceEq, Int.reduceNeg, Int.reduceAdd, Int.reduceSub, Nat.reduceAdd, Nat.reduceLeDiff, argFr, hok, AH.ext_nil, strOp, List.cons.injEq, false_and, and_false, or_self, or_false, false_or, true_or, or_true, encEs_len, Int.natCast_zero, Int.natCast_one, Int.cast_ofNat_Int, nat2, nat3, L_ref10_Kind_0_eq, wl1, wl2, wl3, Int.toNat_zero, Int.reduceToNat, Int.natCast_add, Int.reduceMul, Nat.reduceMul, ge_iff_le, encEs, encE_eq, kSs, kOp, eachS, alikeS, mustS, KD.to, resR, ra, qa, nn]
      | ok ba =>
        rw [qa] at ra
        simp only [resR] at ra
        cases ba
        · simp only [Bool.false_eq_true, if_false, if_true] at ra
          have rb := hb g hok
          cases qb : kS l b with
          | err p n =>
            rw [qb] at rb nb
            simp only [resR] at rb
            have nn : (n = 0) = False := by rcases nb with rfl | rfl | rfl <;> simp
            simp (maxDischargeDepth := 9) only [go_sem, ↓reduceIte, reduceCtorEq, Nat.reduceEqDiff, Int.reduceLE, Int.reduceLT, Int.reduceEq, Int.reduceNeg, Int.reduceAdd, Int.reduceSub, Nat.reduceAdd, Nat.reduceLeDiff, argFr, hok, AH.ext_nil, strOp, List.cons.injEq, false_and, and_false, or_self, or_false, false_or, true_or, or_true, encEs_len, Int.natCast_zero, Int.natCast_one, Int.cast_ofNat_Int, nat2, nat3, L_ref10_Kind_0_eq, wl1, wl2, wl3, Int.toNat_zero, Int.reduceToNat, Int.natCast_add, Int.reduceMul, Nat.reduceMul, ge_iff_le, encEs, encE_eq, kSs, kOp, eachS, alikeS, mustS, KD.to, resR, ra, qa, rb, qb, nn]
          | ok bb =>
            rw [qb] at rb
            simp only [resR] at rb
            cases bb
            · simp only [Bool.false_eq_true, if_false, if_true] at rb
              simp (maxDischargeDepth := 9) only [go_sem, ↓reduceIte, reduceCtorEq, Nat.reduceEqDiff, Int.reduceLE, Int.reduceLT, Int.reduceEq, Int.reduceNeg, Int.reduceAdd, Int.reduceSub, Nat.reduceAdd, Nat.reduceLeDiff, argFr, hok, AH.ext_nil, strOp, List.cons.injEq, false_and, and_false, or_self, or_false, false_or, true_or, or_true, encEs_len, Int.natCast_zero, Int.natCast_one, Int.cast_ofNat_Int, nat2, nat3, L_ref10_Kind_0_eq, wl1, wl2, wl3, Int.toNat_zero, Int.reduceToNat, Int.natCast_add, Int.reduceMul, Nat.reduceMul, ge_iff_le, encEs, encE_eq, kSs, kOp, eachS, alikeS, mustS, KD.to, resR, ra, qa, rb, qb, ]
            · simp only [Bool.false_eq_true, if_false, if_true] at rb
              simp (maxDischargeDepth := 9) only [go_sem, ↓reduceIte, reduceCtorEq, Nat.reduceEqDiff, Int.reduceLE, Int.reduceLT, Int.reduceEq, Int.reduceNeg, Int.reduceAdd, Int.reduceSub, Nat.reduceAdd, Nat.reduceLeDiff, argFr, hok, AH.ext_nil, strOp, List.cons.injEq, false_and, and_false, or_self, or_false, false_or, true_or, or_true, encEs_len, Int.natCast_zero, Int.natCast_one, Int.cast_ofNat_Int, nat2, nat3, L_ref10_Kind_0_eq, wl1, wl2, wl3, Int.toNat_zero, Int.reduceToNat, Int.natCast_add, Int.reduceMul, Nat.reduceMul, ge_iff_le, encEs, encE_eq, kSs, kOp, eachS, alikeS, mustS, KD.to, resR, ra, qa, rb, qb, ]
        · simp only [Bool.false_eq_true, if_false, if_true] at ra
          have rb := hb g hok
          cases qb : kS l b with
          | err p n =>
            rw [qb] at rb nb
            simp only [resR] at rb
            have nn : (n = 0) = False := by rcases nb with rfl | rfl | rfl <;> simp
            simp (maxDischargeDepth := 9) only [go_sem, ↓reduceIte, reduceCtorEq, Nat.reduceEqDiff, Int.reduceLE, Int.reduceLT, Int.reduceEq, Int.reduceNeg, Int.reduceAdd, Int.reduceSub, Nat.reduceAdd, Nat.reduceLeDiff, argFr, hok, AH.ext_nil, strOp, List.cons.injEq, false_and, and_false, or_self, or_false, false_or, true_or, or_true, encEs_len, Int.natCast_zero, Int.natCast_one, Int.cast_ofNat_Int, nat2, nat3, L_ref10_Kind_0_eq, wl1, wl2, wl3, Int.toNat_zero, Int.reduceToNat, Int.natCast_add, Int.reduceMul, Nat.reduceMul, ge_iff_le, encEs, encE_eq, kSs, kOp, eachS, alikeS, mustS, KD.to, resR, ra, qa, rb, qb, nn]
          | ok bb =>
            rw [qb] at rb
            simp only [resR] at rb
            cases bb
            · simp only [Bool.false_eq_true, if_false, if_true] at rb
              simp (maxDischargeDepth := 9) only [go_sem, ↓reduceIte, reduceCtorEq, Nat.reduceEqDiff, Int.reduceLE, Int.reduceLT, Int.reduceEq, Int.reduceNeg, Int.reduceAdd, Int.reduceSub, Nat.reduceAdd, Nat.reduceLeDiff, argFr, hok, AH.ext_nil, strOp, List.cons.injEq, false_and, and_false, or_self, or_false, false_or, true_or, or_true, encEs_len, Int.natCast_zero, Int.natCast_one, Int.cast_ofNat_Int, nat2, nat3, L_ref10_Kind_0_eq, wl1, wl2, wl3, Int.toNat_zero, Int.reduceToNat, Int.natCast_add, Int.reduceMul, Nat.reduceMul, ge_iff_le, encEs, encE_eq, kSs, kOp, eachS, alikeS, mustS, KD.to, resR, ra, qa, rb, qb, ]
            · simp only [Bool.false_eq_true, if_false, if_true] at rb
              simp (maxDischargeDepth := 9) only [go_sem, ↓reduceIte, reduceCtorEq, Nat.reduceEqDiff, Int.reduceLE, Int.reduceLT, Int.reduceEq, Int.reduceNeg, Int.reduceAdd, Int.reduceSub, Nat.reduceAdd, Nat.reduceLeDiff, argFr, hok, AH.ext_nil, strOp, List.cons.injEq, false_and, and_false, or_self, or_false, false_or, true_or, or_true, encEs_len, Int.natCast_zero, Int.natCast_one, Int.cast_ofNat_Int, nat2, nat3, L_ref10_Kind_0_eq, wl1, wl2, wl3, Int.toNat_zero, Int.reduceToNat, Int.natCast_add, Int.reduceMul, Nat.reduceMul, ge_iff_le, encEs, encE_eq, kSs, kOp, eachS, alikeS, mustS, KD.to, resR, ra, qa, rb, qb, ]
    · rw [e] at hw ⊢
      obtain ⟨a, b, hn⟩ : ∃ a b, x.kids = [a, b] := by
        match hx : x.kids, hw with
        | [a, b], _ => exact ⟨a, b, rfl⟩
      rw [hn] at hk ⊢
      have ha := hk a (by simp)
      have na := kN l a
      have hb := hk b (by simp)
      have nb := kN l b
      have ra := ha g hok
      cases qa : kS l a with
      | err p n =>
        rw [qa] at ra na
        simp only [resR] at ra
        have nn : (n = 0) = False := by rcases na with rfl | rfl | rfl <;> simp
        simp (maxDischargeDepth := 9) only [go_sem, ↓reduceIte, reduceCtorEq, Nat.reduceEqDiff, Int.reduceLE, Int.reduceLT, Int.reduceEq, Int.reduceNeg, Int.reduceAdd, Int.reduceSub, Nat.reduceAdd, Nat.reduceLeDiff, argFr, hok, AH.ext_nil, strOp, List.cons.injEq, false_and, and_false, or_self, or_false, false_or, true_or, or_true, encEs_len, Int.natCast_zero, Int.natCast_one, Int.cast_ofNat_Int, nat2, nat3, L_ref10_Kind_0_eq, wl1, wl2, wl3, Int.toNat_zero, Int.reduceToNat, Int.natCast_add, Int.reduceMul, Nat.reduceMul, ge_iff_le, encEs, encE_eq, kSs, kOp, eachS, alikeS, mustS, KD.to, resR, ra, qa, nn]
      | ok ba =>
        rw [qa] at ra
        simp only [resR] at ra
        cases ba
        · simp only [Bool.false_eq_true, if_false, if_true] at ra
          have rb := hb g hok
          cases qb : kS l b with
          | err p n =>
            rw [qb] at rb nb
            simp only [resR] at rb
            have nn : (n = 0) = False := by rcases nb with rfl | rfl | rfl <;> simp
            simp (maxDischargeDepth := 9) only [go_sem, ↓reduceIte, reduceCtorEq, Nat.reduceEqDiff, Int.reduceLE, Int.reduceLT, Int.reduceEq, Int.reduceNeg, Int.reduceAdd, Int.reduceSub, Nat.reduceAdd, Nat.reduceLeDiff, argFr, hok, AH.ext_nil, strOp, List.cons.injEq, false_and, and_false, or_self, or_false, false_or, true_or, or_true, encEs_len, Int.natCast_zero, Int.natCast_one, Int.cast_ofNat_Int, nat2, nat3, L_ref10_Kind_0_eq, wl1, wl2, wl3, Int.toNat_zero, Int.reduceToNat, Int.natCast_add, Int.reduceMul, Nat.reduceMul, ge_iff_le, encEs, encE_eq, kSs, kOp, eachS, alikeS, mustS, KD.to, resR, ra, qa, rb, qb, nn]
          | ok bb =>
            rw [qb] at rb
            simp only [resR] at rb
            cases bb
            · simp only [Bool.false_eq_true, if_false, if_true] at rb
              simp (maxDischargeDepth := 9) only [go_sem, ↓reduceIte, reduceCtorEq, Nat.reduceEqDiff, Int.reduceLE, Int.reduceLT, Int.reduceEq, Int.reduceNeg, Int.reduceAdd, Int.reduceSub, Nat.reduceAdd, Nat.reduceLeDiff, argFr, hok, AH.ext_nil, strOp, List.cons.injEq, false_and, and_false, or_self, or_false, false_or, true_or, or_true, encEs_len, Int.natCast_zero, Int.natCast_one, Int.cast_ofNat_Int, nat2, nat3, L_ref10_Kind_0_eq, wl1, wl2, wl3, Int.toNat_zero, Int.reduceToNat, Int.natCast_add, Int.reduceMul, Nat.reduceMul, ge_iff_le, encEs, encE_eq, kSs, kOp, eachS, alikeS, mustS, KD.to, resR, ra, qa, rb, qb, ]
            · simp only [Bool.false_eq_true, if_false, if_true] at rb
              simp (maxDischargeDepth := 9) only [go_sem, ↓reduceIte, reduceCtorEq, Nat.reduceEqDiff, Int.reduceLE, Int.reduceLT, Int.reduceEq, Int.reduceNeg, Int.reduceAdd, Int.reduceSub, Nat.reduceAdd, Nat.reduceLeDiff, argFr, hok, AH.ext_nil, strOp, List.cons.injEq, false_and, and_false, or_self, or_false, false_or, true_or, or_true, encEs_len, Int.natCast_zero, Int.natCast_one, Int.cast_ofNat_Int, nat2, nat3, L_ref10_Kind_0_eq, wl1, wl2, wl3, Int.toNat_zero, Int.reduceToNat, Int.natCast_add, Int.reduceMul, Nat.reduceMul, ge_iff_le, encEs, encE_eq, kSs, kOp, eachS, alikeS, mustS, KD.to, resR, ra, qa, rb, qb, ]
        · simp only [Bool.false_eq_true, if_false, if_true] at ra
          have rb := hb g hok
          cases qb : kS l b with
          | err p n =>
            rw [qb] at rb nb
            simp only [resR] at rb
            have nn : (n = 0) = False := by rcases nb with rfl | rfl | rfl <;> simp
            simp (maxDischargeDepth := 9) only [go_sem, ↓reduceIte, reduceCtorEq, Nat.reduceEqDiff, Int.reduceLE, Int.reduceLT, Int.reduceEq, Int.reduceNeg, Int.reduceAdd, Int.reduceSub, Nat.reduceAdd, Nat.reduceLeDiff, argFr, hok, AH.ext_nil, strOp, List.cons.injEq, false_and, and_false, or_self, or_false, false_or, true_or, or_true, encEs_len, Int.natCast_zero, Int.natCast_one, Int.cast_ofNat_Int, nat2, nat3, L_ref10_Kind_0_eq, wl1, wl2, wl3, Int.toNat_zero, Int.reduceToNat, Int.natCast_add, Int.reduceMul, Nat.reduceMul, ge_iff_le, encEs, encE_eq, kSs, kOp, eachS, alikeS, mustS, KD.to, resR, ra, qa, rb, qb, nn]
          | ok bb =>
            rw [qb] at rb
            simp only [resR] at rb
            cases bb
            · simp only [Bool.false_eq_true, if_false, if_true] at rb
              simp (maxDischargeDepth := 9) only [go_sem, ↓reduceIte, reduceCtorEq, Nat.reduceEqDiff, Int.reduceLE, Int.reduceLT, Int.reduceEq, Int.reduceNeg, Int.reduceAdd, Int.reduceSub, Nat.reduceAdd, Nat.reduceLeDiff, argFr, hok, AH.ext_nil, strOp, List.cons.injEq, false_and, and_false, or_self, or_false, false_or, true_or, or_true, encEs_len, Int.natCast_zero, Int.natCast_one, Int.cast_ofNat_Int, nat2, nat3, L_ref10_Kind_0_eq, wl1, wl2, wl3, Int.toNat_zero, Int.reduceToNat, Int.natCast_add, Int.reduceMul, Nat.reduceMul, ge_iff_le, encEs, encE_eq, kSs, kOp, eachS, alikeS, mustS, KD.to, resR, ra, qa, rb, qb, ]
            · simp only [Bool.false_eq_true, if_false, if_true] at rb
              simp (maxDischargeDepth := 9) only [go_sem, ↓reduceIte, reduceCtorEq, Nat.reduceEqDiff, Int.reduceLE, Int.reduceLT, Int.reduceEq, Int.reduceNeg, Int.reduceAdd, Int.reduceSub, Nat.reduceAdd, Nat.reduceLeDiff, argFr, hok, AH.ext_nil, strOp, List.cons.injEq, false_and, and_false, or_self, or_false, false_or, true_or, or_true, encEs_len, Int.natCast_zero, Int.natCast_one, Int.cast_ofNat_Int, nat2, nat3, L_ref10_Kind_0_eq, wl1, wl2, wl3, Int.toNat_zero, Int.reduceToNat, Int.natCast_add, Int.reduceMul, Nat.reduceMul, ge_iff_le, encEs, encE_eq, kSs, kOp, eachS, alikeS, mustS, KD.to, resR, ra, qa, rb, qb, ]
    · rw [e] at hw ⊢
      obtain ⟨a, b, hn⟩ : ∃ a b, x.kids = [a, b] := by
        match hx : x.kids, hw with
        | [a, b], _ => exact ⟨a, b, rfl⟩
      rw [hn] at hk ⊢
      have ha := hk a (by simp)
      have na := kN l a
      have hb := hk b (by simp)
      have nb := kN l b
      have ra := ha g hok
      cases qa : kS l a with
      | err p n =>
        rw [qa] at ra na
        simp only [resR] at ra
        have nn : (n = 0) = False := by rcases na with rfl | rfl | rfl <;> simp
        simp (maxDischargeDepth := 9) only [go_sem, ↓reduceIte, reduceCtorEq, Nat.reduceEqDiff, Int.reduceLE, Int.reduceLT, Int.reduceEq, Int.reduceNeg, Int.reduceAdd, Int.reduceSub, Nat.reduceAdd, Nat.reduceLeDiff, argFr, hok, AH.ext_nil, strOp, List.cons.injEq, false_and, and_false, or_self, or_false, false_or, true_or, or_true, encEs_len, Int.natCast_zero, Int.natCast_one, Int.cast_ofNat_Int, nat2, nat3, L_ref10_Kind_0_eq, wl1, wl2, wl3, Int.toNat_zero, Int.reduceToNat, Int.natCast_add, Int.reduceMul, Nat.reduceMul, ge_iff_le, encEs, encE_eq, kSs, kOp, eachS, alikeS, mustS, KD.to, resR, ra, qa, nn]
      | ok ba =>
        rw [qa] at ra
        simp only [resR] at ra
        cases ba
        · simp only [Bool.false_eq_true, if_false, if_true] at ra
          have rb := hb g hok
          cases qb : kS l b with
          | err p n =>
            rw [qb] at rb nb
            simp only [resR] at rb
            have nn : (n = 0) = False := by rcases nb with rfl | rfl | rfl <;> simp
            simp (maxDischargeDepth := 9) only [go_sem, ↓reduceIte, reduceCtorEq, Nat.reduceEqDiff, Int.reduceLE, Int.reduceLT, Int.reduceEq, Int.reduceNeg, Int.reduceAdd, Int.reduceSub, Nat.reduceAdd, Nat.reduceLeDiff, argFr, hok, AH.ext_nil, strOp, List.cons.injEq, false_and, and_false, or_self, or_false, false_or, true_or, or_true, encEs_len, Int.natCast_zero, Int.natCast_one, Int.cast_ofNat_Int, nat2, nat3, L_ref10_Kind_0_eq, wl1, wl2, wl3, Int.toNat_zero, Int.reduceToNat, Int.natCast_add, Int.reduceMul, Nat.reduceMul, ge_iff_le, encEs, encE_eq, kSs, kOp, eachS, alikeS, mustS, KD.to, resR, ra, qa, rb, qb, nn]
          | ok bb =>
            rw [qb] at rb
            simp only [resR] at rb
            cases bb
            · simp only [Bool.false_eq_true, if_false, if_true] at rb
              simp (maxDischargeDepth := 9) only [go_sem, ↓reduceIte, reduceCtorEq, Nat.reduceEqDiff, Int.reduceLE, Int.reduceLT, Int.reduceEq, Int.reduceNeg, Int.reduceAdd, Int.reduceSub, Nat.reduceAdd, Nat.reduceLeDiff, argFr, hok, AH.ext_nil, strOp, List.cons.injEq, false_and, and_false, or_self, or_false, false_or, true_or, or_true, encEs_len, Int.natCast_zero, Int.natCast_one, Int.cast_ofNat_Int, nat2, nat3, L_ref10_Kind_0_eq, wl1, wl2, wl3, Int.toNat_zero, Int.reduceToNat, Int.natCast_add, Int.reduceMul, Nat.reduceMul, ge_iff_le, encEs, encE_eq, kSs, kOp, eachS, alikeS, mustS, KD.to, resR, ra, qa, rb, qb, ]
            · simp only [Bool.false_eq_true, if_false, if_true] at rb
              simp (maxDischargeDepth := 9) only [go_sem, ↓reduceIte, reduceCtorEq, Nat.reduceEqDiff, Int.reduceLE, Int.reduceLT, Int.reduceEq, Int.reduceNeg, Int.reduceAdd, Int.reduceSub, Nat.reduceAdd, Nat.reduceLeDiff, argFr, hok, AH.ext_nil, strOp, List.cons.injEq, false_and, and_false, or_self, or_false, false_or, true_or, or_true, encEs_len, Int.natCast_zero, Int.natCast_one, Int.cast_ofNat_Int, nat2, nat3, L_ref10_Kind_0_eq, wl1, wl2, wl3, Int.toNat_zero, Int.reduceToNat, Int.natCast_add, Int.reduceMul, Nat.reduceMul, ge_iff_le, encEs, encE_eq, kSs, kOp, eachS, alikeS, mustS, KD.to, resR, ra, qa, rb, qb, ]
        · simp only [Bool.false_eq_true, if_false, if_true] at ra
          have rb := hb g hok
          cases qb : kS l b with
          | err p n =>
            rw [qb] at rb nb
            simp only [resR] at rb
            have nn : (n = 0) = False := by rcases nb with rfl | rfl | rfl <;> simp
            simp (maxDischargeDepth := 9) only [go_sem, ↓reduceIte, reduceCtorEq, Nat.reduceEqDiff, Int.reduceLE, Int.reduceLT, Int.reduceEq, Int.reduceNeg, Int.reduceAdd, Int.reduceSub, Nat.reduceAdd, Nat.reduceLeDiff, argFr, hok, AH.ext_nil, strOp, List.cons.injEq, false_and, and_false, or_self, or_false, false_or, true_or, or_true, encEs_len, Int.natCast_zero, Int.natCast_one, Int.cast_ofNat_Int, nat2, nat3, L_ref10_Kind_0_eq, wl1, wl2, wl3, Int.toNat_zero, Int.reduceToNat, Int.natCast_add, Int.reduceMul, Nat.reduceMul, ge_iff_le, encEs, encE_eq, kSs, kOp, eachS, alikeS, mustS, KD.to, resR, ra, qa, rb, qb, nn]
          | ok bb =>
            rw [qb] at rb
            simp only [resR] at rb
            cases bb
            · simp only [Bool.false_eq_true, if_false, if_true] at rb
              simp (maxDischargeDepth := 9) only [go_sem, ↓reduceIte, reduceCtorEq, Nat.reduceEqDiff, Int.reduceLE, Int.reduceLT, Int.reduceEq, Int.reduceNeg, Int.reduceAdd, Int.reduceSub, Nat.reduceAdd, Nat.reduceLeDiff, argFr, hok, AH.ext_nil, strOp, List.cons.injEq, false_and, and_false, or_self, or_false, false_or, true_or, or_true, encEs_len, Int.natCast_zero, Int.natCast_one, Int.cast_ofNat_Int, nat2, nat3, L_ref10_Kind_0_eq, wl1, wl2, wl3, Int.toNat_zero, Int.reduceToNat, Int.natCast_add, Int.reduceMul, Nat.reduceMul, ge_iff_le, encEs, encE_eq, kSs, kOp, eachS, alikeS, mustS, KD.to, resR, ra, qa, rb, qb, ]
            · simp only [Bool.false_eq_true, if_false, if_true] at rb
              simp (maxDischargeDepth := 9) only [go_sem, ↓reduceIte, reduceCtorEq, Nat.reduceEqDiff, Int.reduceLE, Int.reduceLT, Int.reduceEq, Int.reduceNeg, Int.reduceAdd, Int.reduceSub, Nat.reduceAdd, Nat.reduceLeDiff, argFr, hok, AH.ext_nil, strOp, List.cons.injEq, false_and, and_false, or_self, or_false, false_or, true_or, or_true, encEs_len, Int.natCast_zero, Int.natCast_one, Int.cast_ofNat_Int, nat2, nat3, L_ref10_Kind_0_eq, wl1, wl2, wl3, Int.toNat_zero, Int.reduceToNat, Int.natCast_add, Int.reduceMul, Nat.reduceMul, ge_iff_le, encEs, encE_eq, kSs, kOp, eachS, alikeS, mustS, KD.to, resR, ra, qa, rb, qb, ]
    · rw [e] at hw ⊢
      obtain ⟨a, b, hn⟩ : ∃ a b, x.kids = [a, b] := by
        match hx : x.kids, hw with
        | [a, b], _ => exact ⟨a, b, rfl⟩
      rw [hn] at hk ⊢
      have ha := hk a (by simp)
      have na := kN l a
      have hb := hk b (by simp)
      have nb := kN l b
      have ra := ha g hok
      cases qa : kS l a with
      | err p n =>
        rw [qa] at ra na
        simp only [resR] at ra
        have nn : (n = 0) = False := by rcases na with rfl | rfl | rfl <;> simp
        simp (maxDischargeDepth := 9) only [go_sem, ↓reduceIte, reduceCtorEq, Nat.reduceEqDiff, Int.reduceLE, Int.reduceLT, Int.reduceEq, Int.reduceNeg, Int.reduceAdd, Int.reduceSub, Nat.reduceAdd, Nat.reduceLeDiff, argFr, hok, AH.ext_nil, strOp, List.cons.injEq, false_and, and_false, or_self, or_false, false_or, true_or, or_true, encEs_len, Int.natCast_zero, Int.natCast_one, Int.cast_ofNat_Int, nat2, nat3, L_ref10_Kind_0_eq, wl1, wl2, wl3, Int.toNat_zero, Int.reduceToNat, Int.natCast_add, Int.reduceMul, Nat.reduceMul, ge_iff_le, encEs, encE_eq, kSs, kOp, eachS, alikeS, mustS, KD.to, resR, ra, qa, nn]
      | ok ba =>
        rw [qa] at ra
        simp only [resR] at ra
        cases ba
        · simp only [Bool.false_eq_true, if_false, if_true] at ra
          have rb := hb g hok
          cases qb : kS l b with
          | err p n =>
            rw [qb] at rb nb
            simp only [resR] at rb
            have nn : (n = 0) = False := by rcases nb with rfl | rfl | rfl <;> simp
            simp (maxDischargeDepth := 9) only [go_sem, ↓reduceIte, reduceCtorEq, Nat.reduceEqDiff, Int.reduceLE, Int.reduceLT, Int.reduceEq, Int.reduceNeg, Int.reduceAdd, Int.reduceSub, Nat.reduceAdd, Nat.reduceLeDiff, argFr, hok, AH.ext_nil, strOp, List.cons.injEq, false_and, and_false, or_self, or_false, false_or, true_or, or_true, encEs_len, Int.natCast_zero, Int.natCast_one, Int.cast_ofNat_Int, nat2, nat3, L_ref10_Kind_0_eq, wl1, wl2, wl3, Int.toNat_zero, Int.reduceToNat, Int.natCast_add, Int.reduceMul, Nat.reduceMul, ge_iff_le, encEs, encE_eq, kSs, kOp, eachS, alikeS, mustS, KD.to, resR, ra, qa, rb, qb, nn]
          | ok bb =>
            rw [qb] at rb
            simp only [resR] at rb
            cases bb
            · simp only [Bool.false_eq_true, if_false, if_true] at rb
              simp (maxDischargeDepth := 9) only [go_sem, ↓reduceIte, reduceCtorEq, Nat.reduceEqDiff, Int.reduceLE, Int.reduceLT, Int.reduceEq, Int.reduceNeg, Int.reduceAdd, Int.reduceSub, Nat.reduceAdd, Nat.reduceLeDiff, argFr, hok, AH.ext_nil, strOp, List.cons.injEq, false_and, and_false, or_self, or_false, false_or, true_or, or_true, encEs_len, Int.natCast_zero, Int.natCast_one, Int.cast_ofNat_Int, nat2, nat3, L_ref10_Kind_0_eq, wl1, wl2, wl3, Int.toNat_zero, Int.reduceToNat, Int.natCast_add, Int.reduceMul, Nat.reduceMul, ge_iff_le, encEs, encE_eq, kSs, kOp, eachS, alikeS, mustS, KD.to, resR, ra, qa, rb, qb, ]
            · simp only [Bool.false_eq_true, if_false, if_true] at rb
              simp (maxDischargeDepth := 9) only [go_sem, ↓reduceIte, reduceCtorEq, Nat.reduceEqDiff, Int.reduceLE, Int.reduceLT, Int.reduceEq, Int.reduceNeg, Int.reduceAdd, Int.reduceSub, Nat.reduceAdd, Nat.reduceLeDiff, argFr, hok, AH.ext_nil, strOp, List.cons.injEq, false_and, and_false, or_self, or_false, false_or, true_or, or_true, encEs_len, Int.natCast_zero, Int.natCast_one, Int.cast_ofNat_Int, nat2, nat3, L_ref10_Kind_0_eq, wl1, wl2, wl3, Int.toNat_zero, Int.reduceToNat, Int.natCast_add, Int.reduceMul, Nat.reduceMul, ge_iff_le, encEs, encE_eq, kSs, kOp, eachS, alikeS, mustS, KD.to, resR, ra, qa, rb, qb, ]
        · simp only [Bool.false_eq_true, if_false, if_true] at ra
          have rb := hb g hok
          cases qb : kS l b with
          | err p n =>
            rw [qb] at rb nb
            simp only [resR] at rb
            have nn : (n = 0) = False := by rcases nb with rfl | rfl | rfl <;> simp
            simp (maxDischargeDepth := 9) only [go_sem, ↓reduceIte, reduceCtorEq, Nat.reduceEqDiff, Int.reduceLE, Int.reduceLT, Int.reduceEq, Int.reduceNeg, Int.reduceAdd, Int.reduceSub, Nat.reduceAdd, Nat.reduceLeDiff, argFr, hok, AH.ext_nil, strOp, List.cons.injEq, false_and, and_false, or_self, or_false, false_or, true_or, or_true, encEs_len, Int.natCast_zero, Int.natCast_one, Int.cast_ofNat_Int, nat2, nat3, L_ref10_Kind_0_eq, wl1, wl2, wl3, Int.toNat_zero, Int.reduceToNat, Int.natCast_add, Int.reduceMul, Nat.reduceMul, ge_iff_le, encEs, encE_eq, kSs, kOp, eachS, alikeS, mustS, KD.to, resR, ra, qa, rb, qb, nn]
          | ok bb =>
            rw [qb] at rb
            simp only [resR] at rb
            cases bb
            · simp only [Bool.false_eq_true, if_false, if_true] at rb
              simp (maxDischargeDepth := 9) only [go_sem, ↓reduceIte, reduceCtorEq, Nat.reduceEqDiff, Int.reduceLE, Int.reduceLT, Int.reduceEq, Int.reduceNeg, Int.reduceAdd, Int.reduceSub, Nat.reduceAdd, Nat.reduceLeDiff, argFr, hok, AH.ext_nil, strOp, List.cons.injEq, false_and, and_false, or_self, or_false, false_or, true_or, or_true, encEs_len, Int.natCast_zero, Int.natCast_one, Int.cast_ofNat_Int, nat2, nat3, L_ref10_Kind_0_eq, wl1, wl2, wl3, Int.toNat_zero, Int.reduceToNat, Int.natCast_add, Int.reduceMul, Nat.reduceMul, ge_iff_le, encEs, encE_eq, kSs, kOp, eachS, alikeS, mustS, KD.to, resR, ra, qa, rb, qb, ]
            · simp only [Bool.false_eq_true, if_false, if_true] at rb
              simp (maxDischargeDepth := 9) only [go_sem, ↓reduceIte, reduceCtorEq, Nat.reduceEqDiff, Int.reduceLE, Int.reduceLT, Int.reduceEq, Int.reduceNeg, Int.reduceAdd, Int.reduceSub, Nat.reduceAdd, Nat.reduceLeDiff, argFr, hok, AH.ext_nil, strOp, List.cons.injEq, false_and, and_false, or_self, or_false, false_or, true_or, or_true, encEs_len, Int.natCast_zero, Int.natCast_one, Int.cast_ofNat_Int, nat2, nat3, L_ref10_Kind_0_eq, wl1, wl2, wl3, Int.toNat_zero, Int.reduceToNat, Int.natCast_add, Int.reduceMul, Nat.reduceMul, ge_iff_le, encEs, encE_eq, kSs, kOp, eachS, alikeS, mustS, KD.to, resR, ra, qa, rb, qb, ]
    · rw [e] at hw ⊢
      obtain ⟨a, b, hn⟩ : ∃ a b, x.kids = [a, b] := by
        match hx : x.kids, hw with
        | [a, b], _ => exact ⟨a, b, rfl⟩
      rw [hn] at hk ⊢
      have ha := hk a (by simp)
      have na := kN l a
      have hb := hk b (by simp)
      have nb := kN l b
      have ra := ha g hok
      cases qa : kS l a with
      | err p n =>
        rw [qa] at ra na
        simp only [resR] at ra
        have nn : (n = 0) = False := by rcases na with rfl | rfl | rfl <;> simp
        simp (maxDischargeDepth := 9) only [go_sem, ↓reduceIte, reduceCtorEq, Nat.reduceEqDiff, Int.reduceLE, Int.reduceLT, Int.reduceEq, Int.reduceNeg, Int.reduceAdd, Int.reduceSub, Nat.reduceAdd, Nat.reduceLeDiff, argFr, hok, AH.ext_nil, strOp, List.cons.injEq, false_and, and_false, or_self, or_false, false_or, true_or, or_true, encEs_len, Int.natCast_zero, Int.natCast_one, Int.cast_ofNat_Int, nat2, nat3, L_ref10_Kind_0_eq, wl1, wl2, wl3, Int.toNat_zero, Int.reduceToNat, Int.natCast_add, Int.reduceMul, Nat.reduceMul, ge_iff_le, encEs, encE_eq, kSs, kOp, eachS, alikeS, mustS, KD.to, resR, ra, qa, nn]
      | ok ba =>
        rw [qa] at ra
        simp only [resR] at ra
        cases ba
        · simp only [Bool.false_eq_true, if_false, if_true] at ra
          have rb := hb g hok
          cases qb : kS l b with
          | err p n =>
            rw [qb] at rb nb
            simp only [resR] at rb
            have nn : (n = 0) = False := by rcases nb with rfl | rfl | rfl <;> simp
            simp (maxDischargeDepth := 9) only [go_sem, ↓reduceIte, reduceCtorEq, Nat.reduceEqDiff, Int.reduceLE, Int.reduceLT, Int.reduceEq, Int.reduceNeg, Int.reduceAdd, Int.reduceSub, Nat.reduceAdd, Nat.reduceLeDiff, argFr, hok, AH.ext_nil, strOp, List.cons.injEq, false_and, and_false, or_self, or_false, false_or, true_or, or_true, encEs_len, Int.natCast_zero, Int.natCast_one, Int.cast_ofNat_Int, nat2, nat3, L_ref10_Kind_0_eq, wl1, wl2, wl3, Int.toNat_zero, Int.reduceToNat, Int.natCast_add, Int.reduceMul, Nat.reduceMul, ge_iff_le, encEs, encE_eq, kSs, kOp, eachS, alikeS, mustS, KD.to, resR, ra, qa, rb, qb, nn]
          | ok bb =>
            rw [qb] at rb
            simp only [resR] at rb
            cases bb
            · simp only [Bool.false_eq_true, if_false, if_true] at rb
              simp (maxDischargeDepth := 9) only [go_sem, ↓reduceIte, reduceCtorEq, Nat.reduceEqDiff, Int.reduceLE, Int.reduceLT, Int.reduceEq, Int.reduceNeg, Int.reduceAdd, Int.reduceSub, Nat.reduceAdd, Nat.reduceLeDiff, argFr, hok, AH.ext_nil, strOp, List.cons.injEq, false_and, and_false, or_self, or_false, false_or, true_or, or_true, encEs_len, Int.natCast_zero, Int.natCast_one, Int.cast_ofNat_Int, nat2, nat3, L_ref10_Kind_0_eq, wl1, wl2, wl3, Int.toNat_zero, Int.reduceToNat, Int.natCast_add, Int.reduceMul, Nat.reduceMul, ge_iff_le, encEs, encE_eq, kSs, kOp, eachS, alikeS, mustS, KD.to, resR, ra, qa, rb, qb, ]
            · simp only [Bool.false_eq_true, if_false, if_true] at rb
              simp (maxDischargeDepth := 9) only [go_sem, ↓reduceIte, reduceCtorEq, Nat.reduceEqDiff, Int.reduceLE, Int.reduceLT, Int.reduceEq, Int.reduceNeg, Int.reduceAdd, Int.reduceSub, Nat.reduceAdd, Nat.reduceLeDiff, argFr, hok, AH.ext_nil, strOp, List.cons.injEq, false_and, and_false, or_self, or_false, false_or, true_or, or_true, encEs_len, Int.natCast_zero, Int.natCast_one, Int.cast_ofNat_Int, nat2, nat3, L_ref10_Kind_0_eq, wl1, wl2, wl3, Int.toNat_zero, Int.reduceToNat, Int.natCast_add, Int.reduceMul, Nat.reduceMul, ge_iff_le, encEs, encE_eq, kSs, kOp, eachS, alikeS, mustS, KD.to, resR, ra, qa, rb, qb, ]
        · simp only [Bool.false_eq_true, if_false, if_true] at ra
          have rb := hb g hok
          cases qb : kS l b with
          | err p n =>
            rw [qb] at rb nb
            simp only [resR] at rb
            have nn : (n = 0) = False := by rcases nb with rfl | rfl | rfl <;> simp
            simp (maxDischargeDepth := 9) only [go_sem, ↓reduceIte, reduceCtorEq, Nat.reduceEqDiff, Int.reduceLE, Int.reduceLT, Int.reduceEq, Int.reduceNeg, Int.reduceAdd, Int.reduceSub, Nat.reduceAdd, Nat.reduceLeDiff, argFr, hok, AH.ext_nil, strOp, List.cons.injEq, false_and, and_false, or_self, or_false, false_or, true_or, or_true, encEs_len, Int.natCast_zero, Int.natCast_one, Int.cast_ofNat_Int, nat2, nat3, L_ref10_Kind_0_eq, wl1, wl2, wl3, Int.toNat_zero, Int.reduceToNat, Int.natCast_add, Int.reduceMul, Nat.reduceMul, ge_iff_le, encEs, encE_eq, kSs, kOp, eachS, alikeS, mustS, KD.to, resR, ra, qa, rb, qb, nn]
          | ok bb =>
            rw [qb] at rb
            simp only [resR] at rb
            cases bb
            · simp only [Bool.false_eq_true, if_false, if_true] at rb
              simp (maxDischargeDepth := 9) only [go_sem, ↓reduceIte, reduceCtorEq, Nat.reduceEqDiff, Int.reduceLE, Int.reduceLT, Int.reduceEq, Int.reduceNeg, Int.reduceAdd, Int.reduceSub, Nat.reduceAdd, Nat.reduceLeDiff, argFr, hok, AH.ext_nil, strOp, List.cons.injEq, false_and, and_false, or_self, or_false, false_or, true_or, or_true, encEs_len, Int.natCast_zero, Int.natCast_one, Int.cast_ofNat_Int, nat2, nat3, L_ref10_Kind_0_eq, wl1, wl2, wl3, Int.toNat_zero, Int.reduceToNat, Int.natCast_add, Int.reduceMul, Nat.reduceMul, ge_iff_le, encEs, encE_eq, kSs, kOp, eachS, alikeS, mustS, KD.to, resR, ra, qa, rb, qb, ]
            · simp only [Bool.false_eq_true, if_false, if_true] at rb
              simp (maxDischargeDepth := 9) only [go_sem, ↓reduceIte, reduceCtorEq, Nat.reduceEqDiff, Int.reduceLE, Int.reduceLT, Int.reduceEq, Int.reduceNeg, Int.reduceAdd, Int.reduceSub, Nat.reduceAdd, Nat.reduceLeDiff, argFr, hok, AH.ext_nil, strOp, List.cons.injEq, false_and, and_false, or_self, or_false, false_or, true_or, or_true, encEs_len, Int.natCast_zero, Int.natCast_one, Int.cast_ofNat_Int, nat2, nat3, L_ref10_Kind_0_eq, wl1, wl2, wl3, Int.toNat_zero, Int.reduceToNat, Int.natCast_add, Int.reduceMul, Nat.reduceMul, ge_iff_le, encEs, encE_eq, kSs, kOp, eachS, alikeS, mustS, KD.to, resR, ra, qa, rb, qb, ]
    · rw [e] at hw ⊢
      obtain ⟨a, b, hn⟩ : ∃ a b, x.kids = [a, b] := by
        match hx : x.kids, hw with
        | [a, b], _ => exact ⟨a, b, rfl⟩
      rw [hn] at hk ⊢
      have ha := hk a (by simp)
      have na := kN l a
      have hb := hk b (by simp)
      have nb := kN l b
      have ra := ha g hok
      cases qa : kS l a with
      | err p n =>
        rw [qa] at ra na
        simp only [resR] at ra
        have nn : (n = 0) = False := by rcases na with rfl | rfl | rfl <;> simp
        simp (maxDischargeDepth := 9) only [go_sem, ↓reduceIte, reduceCtorEq, Nat.reduceEqDiff, Int.reduceLE, Int.reduceLT, Int.reduceEq, Int.reduceNeg, Int.reduceAdd, Int.reduceSub, Nat.reduceAdd, Nat.reduceLeDiff, argFr, hok, AH.ext_nil, strOp, List.cons.injEq, false_and, and_false, or_self, or_false, false_or, true_or, or_true, encEs_len, Int.natCast_zero, Int.natCast_one, Int.cast_ofNat_Int, nat2, nat3, L_ref10_Kind_0_eq, wl1, wl2, wl3, Int.toNat_zero, Int.reduceToNat, Int.natCast_add, Int.reduceMul, Nat.reduceMul, ge_iff_le, encEs, encE_eq, kSs, kOp, eachS, alikeS, mustS, KD.to, resR, ra, qa, nn]
      | ok ba =>
        rw [qa] at ra
        simp only [resR] at ra
        cases ba
        · simp only [Bool.false_eq_true, if_false, if_true] at ra
          have rb := hb g hok
          cases qb : kS l b with
          | err p n =>
            rw [qb] at rb nb
            simp only [resR] at rb
            have nn : (n = 0) = False := by rcases nb with rfl | rfl | rfl <;> simp
            simp (maxDischargeDepth := 9) only [go_sem, ↓reduceIte, reduceCtorEq, Nat.reduceEqDiff, Int.reduceLE, Int.reduceLT, Int.reduceEq, Int.reduceNeg, Int.reduceAdd, Int.reduceSub, Nat.reduceAdd, Nat.reduceLeDiff, argFr, hok, AH.ext_nil, strOp, List.cons.injEq, false_and, and_false, or_self, or_false, false_or, true_or, or_true, encEs_len, Int.natCast_zero, Int.natCast_one, Int.cast_ofNat_Int, nat2, nat3, L_ref10_Kind_0_eq, wl1, wl2, wl3, Int.toNat_zero, Int.reduceToNat, Int.natCast_add, Int.reduceMul, Nat.reduceMul, ge_iff_le, encEs, encE_eq, kSs, kOp, eachS, alikeS, mustS, KD.to, resR, ra, qa, rb, qb, nn]
          | ok bb =>
            rw [qb] at rb
            simp only [resR] at rb
            cases bb
            · simp only [Bool.false_eq_true, if_false, if_true] at rb
              simp (maxDischargeDepth := 9) only [go_sem, ↓reduceIte, reduceCtorEq, Nat.reduceEqDiff, Int.reduceLE, Int.reduceLT, Int.reduceEq, Int.reduceNeg, Int.reduceAdd, Int.reduceSub, Nat.reduceAdd, Nat.reduceLeDiff, argFr, hok, AH.ext_nil, strOp, List.cons.injEq, false_and, and_false, or_self, or_false, false_or, true_or, or_true, encEs_len, Int.natCast_zero, Int.natCast_one, Int.cast_ofNat_Int, nat2, nat3, L_ref10_Kind_0_eq, wl1, wl2, wl3, Int.toNat_zero, Int.reduceToNat, Int.natCast_add, Int.reduceMul, Nat.reduceMul, ge_iff_le, encEs, encE_eq, kSs, kOp, eachS, alikeS, mustS, KD.to, resR, ra, qa, rb, qb, ]
            · simp only [Bool.false_eq_true, if_false, if_true] at rb
              simp (maxDischargeDepth := 9) only [go_sem, ↓reduceIte, reduceCtorEq, Nat.reduceEqDiff, Int.reduceLE, Int.reduceLT, Int.reduceEq, Int.reduceNeg, Int.reduceAdd, Int.reduceSub, Nat.reduceAdd, Nat.reduceLeDiff, argFr, hok, AH.ext_nil, strOp, List.cons.injEq, false_and, and_false, or_self, or_false, false_or, true_or, or_true, encEs_len, Int.natCast_zero, Int.natCast_one, Int.cast_ofNat_Int, nat2, nat3, L_ref10_Kind_0_eq, wl1, wl2, wl3, Int.toNat_zero, Int.reduceToNat, Int.natCast_add, Int.reduceMul, Nat.reduceMul, ge_iff_le, encEs, encE_eq, kSs, kOp, eachS, alikeS, mustS, KD.to, resR, ra, qa, rb, qb, ]
        · simp only [Bool.false_eq_true, if_false, if_true] at ra
          have rb := hb g hok
          cases qb : kS l b with
          | err p n =>
            rw [qb] at rb nb
            simp only [resR] at rb
            have nn : (n = 0) = False := by rcases nb with rfl | rfl | rfl <;> simp
            simp (maxDischargeDepth := 9) only [go_sem, ↓reduceIte, reduceCtorEq, Nat.reduceEqDiff, Int.reduceLE, Int.reduceLT, Int.reduceEq, Int.reduceNeg, Int.reduceAdd, Int.reduceSub, Nat.reduceAdd, Nat.reduceLeDiff, argFr, hok, AH.ext_nil, strOp, List.cons.injEq, false_and, and_false, or_self, or_false, false_or, true_or, or_true, encEs_len, Int.natCast_zero, Int.natCast_one, Int.cast_ofNat_Int, nat2, nat3, L_ref10_Kind_0_eq, wl1, wl2, wl3, Int.toNat_zero, Int.reduceToNat, Int.natCast_add, Int.reduceMul, Nat.reduceMul, ge_iff_le, encEs, encE_eq, kSs, kOp, eachS, alikeS, mustS, KD.to, resR, ra, qa, rb, qb, nn]
          | ok bb =>
            rw [qb] at rb
            simp only [resR] at rb
            cases bb
            · simp only [Bool.false_eq_true, if_false, if_true] at rb
              simp (maxDischargeDepth := 9) only [go_sem, ↓reduceIte, reduceCtorEq, Nat.reduceEqDiff, Int.reduceLE, Int.reduceLT, Int.reduceEq, Int.reduceNeg, Int.reduceAdd, Int.reduceSub, Nat.reduceAdd, Nat.reduceLeDiff, argFr, hok, AH.ext_nil, strOp, List.cons.injEq, false_and, and_false, or_self, or_false, false_or, true_or, or_true, encEs_len, Int.natCast_zero, Int.natCast_one, Int.cast_ofNat_Int, nat2, nat3, L_ref10_Kind_0_eq, wl1, wl2, wl3, Int.toNat_zero, Int.reduceToNat, Int.natCast_add, Int.reduceMul, Nat.reduceMul, ge_iff_le, encEs, encE_eq, kSs, kOp, eachS, alikeS, mustS, KD.to, resR, ra, qa, rb, qb, ]
            · simp only [Bool.false_eq_true, if_false, if_true] at rb
              simp (maxDischargeDepth := 9) only [go_sem, ↓reduceIte, reduceCtorEq, Nat.reduceEqDiff, Int.reduceLE, Int.reduceLT, Int.reduceEq, Int.reduceNeg, Int.reduceAdd, Int.reduceSub, Nat.reduceAdd, Nat.reduceLeDiff, argFr, hok, AH.ext_nil, strOp, List.cons.injEq, false_and, and_false, or_self, or_false, false_or, true_or, or_true, encEs_len, Int.natCast_zero, Int.natCast_one, Int.cast_ofNat_Int, nat2, nat3, L_ref10_Kind_0_eq, wl1, wl2, wl3, Int.toNat_zero, Int.reduceToNat, Int.natCast_add, Int.reduceMul, Nat.reduceMul, ge_iff_le, encEs, encE_eq, kSs, kOp, eachS, alikeS, mustS, KD.to, resR, ra, qa, rb, qb, ]
    · rw [e] at hw ⊢
      obtain ⟨a, b, hn⟩ : ∃ a b, x.kids = [a, b] := by
        match hx : x.kids, hw with
        | [a, b], _ => exact ⟨a, b, rfl⟩
      rw [hn] at hk ⊢
      have ha := hk a (by simp)
      have na := kN l a
      have hb := hk b (by simp)
      have nb := kN l b
      have ra := ha g hok
      cases qa : kS l a with
      | err p n =>
        rw [qa] at ra na
        simp only [resR] at ra
        have nn : (n = 0) = False := by rcases na with rfl | rfl | rfl <;> simp
        simp (maxDischargeDepth := 9) only [go_sem, ↓reduceIte, reduceCtorEq, Nat.reduceEqDiff, Int.reduceLE, Int.reduceLT, Int.reduceEq, Int.reduceNeg, Int.reduceAdd, Int.reduceSub, Nat.reduceAdd, Nat.reduceLeDiff, argFr, hok, AH.ext_nil, strOp, List.cons.injEq, false_and, and_false, or_self, or_false, false_or, true_or, or_true, encEs_len, Int.natCast_zero, Int.natCast_one, Int.cast_ofNat_Int, nat2, nat3, L_ref10_Kind_0_eq, wl1, wl2, wl3, Int.toNat_zero, Int.reduceToNat, Int.natCast_add, Int.reduceMul, Nat.reduceMul, ge_iff_le, encEs, encE_eq, kSs, kOp, eachS, alikeS, mustS, KD.to, resR, ra, qa, nn]
      | ok ba =>
        rw [qa] at ra
        simp only [resR] at ra
        cases ba
        · simp only [Bool.false_eq_true, if_false, if_true] at ra
          have rb := hb g hok
          cases qb : kS l b with
          | err p n =>
            rw [qb] at rb nb
            simp only [resR] at rb
            have nn : (n = 0) = False := by rcases nb with rfl | rfl | rfl <;> simp
            simp (maxDischargeDepth := 9) only [go_sem, ↓reduceIte, reduceCtorEq, Nat.reduceEqDiff, Int.reduceLE, Int.reduceLT, Int.reduceEq, Int.reduceNeg, Int.reduceAdd, Int.reduceSub, Nat.reduceAdd, Nat.reduceLeDiff, argFr, hok, AH.ext_nil, strOp, List.cons.injEq, false_and, and_false, or_self, or_false, false_or, true_or, or_true, encEs_len, Int.natCast_zero, Int.natCast_one, Int.cast_ofNat_Int, nat2, nat3, L_ref10_Kind_0_eq, wl1, wl2, wl3, Int.toNat_zero, Int.reduceToNat, Int.natCast_add, Int.reduceMul, Nat.reduceMul, ge_iff_le, encEs, encE_eq, kSs, kOp, eachS, alikeS, mustS, KD.to, resR, ra, qa, rb, qb, nn]
          | ok bb =>
            rw [qb] at rb
            simp only [resR] at rb
            cases bb
            · simp only [Bool.false_eq_true, if_false, if_true] at rb
              simp (maxDischargeDepth := 9) only [go_sem, ↓reduceIte, reduceCtorEq, Nat.reduceEqDiff, Int.reduceLE, Int.reduceLT, Int.reduceEq, Int.reduceNeg, Int.reduceAdd, Int.reduceSub, Nat.reduceAdd, Nat.reduceLeDiff, argFr, hok, AH.ext_nil, strOp, List.cons.injEq, false_and, and_false, or_self, or_false, false_or, true_or, or_true, encEs_len, Int.natCast_zero, Int.natCast_one, Int.cast_ofNat_Int, nat2, nat3, L_ref10_Kind_0_eq, wl1, wl2, wl3, Int.toNat_zero, Int.reduceToNat, Int.natCast_add, Int.reduceMul, Nat.reduceMul, ge_iff_le, encEs, encE_eq, kSs, kOp, eachS, alikeS, mustS, KD.to, resR, ra, qa, rb, qb, ]
            · simp only [Bool.false_eq_true, if_false, if_true] at rb
              simp (maxDischargeDepth := 9) only [go_sem, ↓reduceIte, reduceCtorEq, Nat.reduceEqDiff, Int.reduceLE, Int.reduceLT, Int.reduceEq, Int.reduceNeg, Int.reduceAdd, Int.reduceSub, Nat.reduceAdd, Nat.reduceLeDiff, argFr, hok, AH.ext_nil, strOp, List.cons.injEq, false_and, and_false, or_self, or_false, false_or, true_or, or_true, encEs_len, Int.natCast_zero, Int.natCast_one, Int.cast_ofNat_Int, nat2, nat3, L_ref10_Kind_0_eq, wl1, wl2, wl3, Int.toNat_zero, Int.reduceToNat, Int.natCast_add, Int.reduceMul, Nat.reduceMul, ge_iff_le, encEs, encE_eq, kSs, kOp, eachS, alikeS, mustS, KD.to, resR, ra, qa, rb, qb, ]
        · simp only [Bool.false_eq_true, if_false, if_true] at ra
          have rb := hb g hok
          cases qb : kS l b with
          | err p n =>
            rw [qb] at rb nb
            simp only [resR] at rb
            have nn : (n = 0) = False := by rcases nb with rfl | rfl | rfl <;> simp
            simp (maxDischargeDepth := 9) only [go_sem, ↓reduceIte, reduceCtorEq, Nat.reduceEqDiff, Int.reduceLE, Int.reduceLT, Int.reduceEq, Int.reduceNeg, Int.reduceAdd, Int.reduceSub, Nat.reduceAdd, Nat.reduceLeDiff, argFr, hok, AH.ext_nil, strOp, List.cons.injEq, false_and, and_false, or_self, or_false, false_or, true_or, or_true, encEs_len, Int.natCast_zero, Int.natCast_one, Int.cast_ofNat_Int, nat2, nat3, L_ref10_Kind_0_eq, wl1, wl2, wl3, Int.toNat_zero, Int.reduceToNat, Int.natCast_add, Int.reduceMul, Nat.reduceMul, ge_iff_le, encEs, encE_eq, kSs, kOp, eachS, alikeS, mustS, KD.to, resR, ra, qa, rb, qb, nn]
          | ok bb =>
            rw [qb] at rb
            simp only [resR] at rb
            cases bb
            · simp only [Bool.false_eq_true, if_false, if_true] at rb
              simp (maxDischargeDepth := 9) only [go_sem, ↓reduceIte, reduceCtorEq, Nat.reduceEqDiff, Int.reduceLE, Int.reduceLT, Int.reduceEq, Int.reduceNeg, Int.reduceAdd, Int.reduceSub, Nat.reduceAdd, Nat.reduceLeDiff, argFr, hok, AH.ext_nil, strOp, List.cons.injEq, false_and, and_false, or_self, or_false, false_or, true_or, or_true, encEs_len, Int.natCast_zero, Int.natCast_one, Int.cast_ofNat_Int, nat2, nat3, L_ref10_Kind_0_eq, wl1, wl2, wl3, Int.toNat_zero, Int.reduceToNat, Int.natCast_add, Int.reduceMul, Nat.reduceMul, ge_iff_le, encEs, encE_eq, kSs, kOp, eachS, alikeS, mustS, KD.to, resR, ra, qa, rb, qb, ]
            · simp only [Bool.false_eq_true, if_false, if_true] at rb
              simp (maxDischargeDepth := 9) only [go_sem, ↓reduceIte, reduceCtorEq, Nat.reduceEqDiff, Int.reduceLE, Int.reduceLT, Int.reduceEq, Int.reduceNeg, Int.reduceAdd, Int.reduceSub, Nat.reduceAdd, Nat.reduceLeDiff, argFr, hok, AH.ext_nil, strOp, List.cons.injEq, false_and, and_false, or_self, or_false, false_or, true_or, or_true, encEs_len, Int.natCast_zero, Int.natCast_one, Int.cast_ofNat_Int, nat2, nat3, L_ref10_Kind_0_eq, wl1, wl2, wl3, Int.toNat_zero, Int.reduceToNat, Int.natCast_add, Int.reduceMul, Nat.reduceMul, ge_iff_le, encEs, encE_eq, kSs, kOp, eachS, alikeS, mustS, KD.to, resR, ra, qa, rb, qb, ]
    · rw [e] at hw ⊢
      obtain ⟨a, b, hn⟩ : ∃ a b, x.kids = [a, b] := by
        match hx : x.kids, hw with
        | [a, b], _ => exact ⟨a, b, rfl⟩
      rw [hn] at hk ⊢
      have ha := hk a (by simp)
      have na := kN l a
      have hb := hk b (by simp)
      have nb := kN l b
      have ra := ha g hok
      cases qa : kS l a with
      | err p n =>
        rw [qa] at ra na
        simp only [resR] at ra
        have nn : (n = 0) = False := by rcases na with rfl | rfl | rfl <;> simp
        simp (maxDischargeDepth := 9) only [go_sem, ↓reduceIte, reduceCtorEq, Nat.reduceEqDiff, Int.reduceLE, Int.reduceLT, Int.reduceEq, Int.reduceNeg, Int.reduceAdd, Int.reduceSub, Nat.reduceAdd, Nat.reduceLeDiff, argFr, hok, AH.ext_nil, strOp, List.cons.injEq, false_and, and_false, or_self, or_false, false_or, true_or, or_true, encEs_len, Int.natCast_zero, Int.natCast_one, Int.cast_ofNat_Int, nat2, nat3, L_ref10_Kind_0_eq, wl1, wl2, wl3, Int.toNat_zero, Int.reduceToNat, Int.natCast_add, Int.reduceMul, Nat.reduceMul, ge_iff_le, encEs, encE_eq, kSs, kOp, eachS, alikeS, mustS, KD.to, resR, ra, qa, nn]
      | ok ba =>
        rw [qa] at ra
        simp only [resR] at ra
        cases ba
        · simp only [Bool.false_eq_true, if_false, if_true] at ra
          have rb := hb g hok
          cases qb : kS l b with
          | err p n =>
            rw [qb] at rb nb
            simp only [resR] at rb
            have nn : (n = 0) = False := by rcases nb with rfl | rfl | rfl <;> simp
            simp (maxDischargeDepth := 9) only [go_sem, ↓reduceIte, reduceCtorEq, Nat.reduceEqDiff, Int.reduceLE, Int.reduceLT, Int.reduceEq, Int.reduceNeg, Int.reduceAdd, Int.reduceSub, Nat.reduceAdd, Nat.reduceLeDiff, argFr, hok, AH.ext_nil, strOp, List.cons.injEq, false_and, and_false, or_self, or_false, false_or, true_or, or_true, encEs_len, Int.natCast_zero, Int.natCast_one, Int.cast_ofNat_Int, nat2, nat3, L_ref10_Kind_0_eq, wl1, wl2, wl3, Int.toNat_zero, Int.reduceToNat, Int.natCast_add, Int.reduceMul, Nat.reduceMul, ge_iff_le, encEs, encE_eq, kSs, kOp, eachS, alikeS, mustS, KD.to, resR, ra, qa, rb, qb, nn]
          | ok bb =>
            rw [qb] at rb
            simp only [resR] at rb
            cases bb
            · simp only [Bool.false_eq_true, if_false, if_true] at rb
              simp (maxDischargeDepth := 9) only [go_sem, ↓reduceIte, reduceCtorEq, Nat.reduceEqDiff, Int.reduceLE, Int.reduceLT, Int.reduceEq, Int.reduceNeg, Int.reduceAdd, Int.reduceSub, Nat.reduceAdd, Nat.reduceLeDiff, argFr, hok, AH.ext_nil, strOp, List.cons.injEq, false_and, and_false, or_self, or_false, false_or, true_or, or_true, encEs_len, Int.natCast_zero, Int.natCast_one, Int.cast_ofNat_Int, nat2, nat3, L_ref10_Kind_0_eq, wl1, wl2, wl3, Int.toNat_zero, Int.reduceToNat, Int.natCast_add, Int.reduceMul, Nat.reduceMul, ge_iff_le, encEs, encE_eq, kSs, kOp, eachS, alikeS, mustS, KD.to, resR, ra, qa, rb, qb, ]
            · simp only [Bool.false_eq_true, if_false, if_true] at rb
              simp (maxDischargeDepth := 9) only [go_sem, ↓reduceIte, reduceCtorEq, Nat.reduceEqDiff, Int.reduceLE, Int.reduceLT, Int.reduceEq, Int.reduceNeg, Int.reduceAdd, Int.reduceSub, Nat.reduceAdd, Nat.reduceLeDiff, argFr, hok, AH.ext_nil, strOp, List.cons.injEq, false_and, and_false, or_self, or_false, false_or, true_or, or_true, encEs_len, Int.natCast_zero, Int.natCast_one, Int.cast_ofNat_Int, nat2, nat3, L_ref10_Kind_0_eq, wl1, wl2, wl3, Int.toNat_zero, Int.reduceToNat, Int.natCast_add, Int.reduceMul, Nat.reduceMul, ge_iff_le, encEs, encE_eq, kSs, kOp, eachS, alikeS, mustS, KD.to, resR, ra, qa, rb, qb, ]
        · simp only [Bool.false_eq_true, if_false, if_true] at ra
          have rb := hb g hok
          cases qb : kS l b with
          | err p n =>
            rw [qb] at rb nb
            simp only [resR] at rb
            have nn : (n = 0) = False := by rcases nb with rfl | rfl | rfl <;> simp
            simp (maxDischargeDepth := 9) only [go_sem, ↓reduceIte, reduceCtorEq, Nat.reduceEqDiff, Int.reduceLE, Int.reduceLT, Int.reduceEq, Int.reduceNeg, Int.reduceAdd, Int.reduceSub, Nat.reduceAdd, Nat.reduceLeDiff, argFr, hok, AH.ext_nil, strOp, List.cons.injEq, false_and, and_false, or_self, or_false, false_or, true_or, or_true, encEs_len, Int.natCast_zero, Int.natCast_one, Int.cast_ofNat_Int, nat2, nat3, L_ref10_Kind_0_eq, wl1, wl2, wl3, Int.toNat_zero, Int.reduceToNat, Int.natCast_add, Int.reduceMul, Nat.reduceMul, ge_iff_le, encEs, encE_eq, kSs, kOp, eachS, alikeS, mustS, KD.to, resR, ra, qa, rb, qb, nn]
          | ok bb =>
            rw [qb] at rb
            simp only [resR] at rb
            cases bb
            · simp only [Bool.false_eq_true, if_false, if_true] at rb
              simp (maxDischargeDepth := 9) only [go_sem, ↓reduceIte, reduceCtorEq, Nat.reduceEqDiff, Int.reduceLE, Int.reduceLT, Int.reduceEq, Int.reduceNeg, Int.reduceAdd, Int.reduceSub, Nat.reduceAdd, Nat.reduceLeDiff, argFr, hok, AH.ext_nil, strOp, List.cons.injEq, false_and, and_false, or_self, or_false, false_or, true_or, or_true, encEs_len, Int.natCast_zero, Int.natCast_one, Int.cast_ofNat_Int, nat2, nat3, L_ref10_Kind_0_eq, wl1, wl2, wl3, Int.toNat_zero, Int.reduceToNat, Int.natCast_add, Int.reduceMul, Nat.reduceMul, ge_iff_le, encEs, encE_eq, kSs, kOp, eachS, alikeS, mustS, KD.to, resR, ra, qa, rb, qb, ]
            · simp only [Bool.false_eq_true, if_false, if_true] at rb
              simp (maxDischargeDepth := 9) only [go_sem, ↓reduceIte, reduceCtorEq, Nat.reduceEqDiff, Int.reduceLE, Int.reduceLT, Int.reduceEq, Int.reduceNeg, Int.reduceAdd, Int.reduceSub, Nat.reduceAdd, Nat.reduceLeDiff, argFr, hok, AH.ext_nil, strOp, List.cons.injEq, false_and, and_false, or_self, or_false, false_or, true_or, or_true, encEs_len, Int.natCast_zero, Int.natCast_one, Int.cast_ofNat_Int, nat2, nat3, L_ref10_Kind_0_eq, wl1, wl2, wl3, Int.toNat_zero, Int.reduceToNat, Int.natCast_add, Int.reduceMul, Nat.reduceMul, ge_iff_le, encEs, encE_eq, kSs, kOp, eachS, alikeS, mustS, KD.to, resR, ra, qa, rb, qb, ]
    · rw [e] at hw ⊢
      obtain ⟨a, b, hn⟩ : ∃ a b, x.kids = [a, b] := by
        match hx : x.kids, hw with
        | [a, b], _ => exact ⟨a, b, rfl⟩
      rw [hn] at hk ⊢
      have ha := hk a (by simp)
      have na := kN l a
      have hb := hk b (by simp)
      have nb := kN l b
      have ra := ha g hok
      cases qa : kS l a with
      | err p n =>
        rw [qa] at ra na
        simp only [resR] at ra
        have nn : (n = 0) = False := by rcases na with rfl | rfl | rfl <;> simp
        simp (maxDischargeDepth := 9) only [go_sem, ↓reduceIte, reduceCtorEq, Nat.reduceEqDiff, Int.reduceLE, Int.reduceLT, Int.reduceEq, Int.reduceNeg, Int.reduceAdd, Int.reduceSub, Nat.reduceAdd, Nat.reduceLeDiff, argFr, hok, AH.ext_nil, strOp, List.cons.injEq, false_and, and_false, or_self, or_false, false_or, true_or, or_true, encEs_len, Int.natCast_zero, Int.natCast_one, Int.cast_ofNat_Int, nat2, nat3, L_ref10_Kind_0_eq, wl1, wl2, wl3, Int.toNat_zero, Int.reduceToNat, Int.natCast_add, Int.reduceMul, Nat.reduceMul, ge_iff_le, encEs, encE_eq, kSs, kOp, eachS, alikeS, mustS, KD.to, resR, ra, qa, nn]
      | ok ba =>
        rw [qa] at ra
        simp only [resR] at ra
        cases ba
        · simp only [Bool.false_eq_true, if_false, if_true] at ra
          have rb := hb g hok
          cases qb : kS l b with
          | err p n =>
            rw [qb] at rb nb
            simp only [resR] at rb
            have nn : (n = 0) = False := by rcases nb with rfl | rfl | rfl <;> simp
            simp (maxDischargeDepth := 9) only [go_sem, ↓reduceIte, reduceCtorEq, Nat.reduceEqDiff, Int.reduceLE, Int.reduceLT, Int.reduceEq, Int.reduceNeg, Int.reduceAdd, Int.reduceSub, Nat.reduceAdd, Nat.reduceLeDiff, argFr, hok, AH.ext_nil, strOp, List.cons.injEq, false_and, and_false, or_self, or_false, false_or, true_or, or_true, encEs_len, Int.natCast_zero, Int.natCast_one, Int.cast_ofNat_Int, nat2, nat3, L_ref10_Kind_0_eq, wl1, wl2, wl3, Int.toNat_zero, Int.reduceToNat, Int.natCast_add, Int.reduceMul, Nat.reduceMul, ge_iff_le, encEs, encE_eq, kSs, kOp, eachS, alikeS, mustS, KD.to, resR, ra, qa, rb, qb, nn]
          | ok bb =>
            rw [qb] at rb
            simp only [resR] at rb
            cases bb
            · simp only [Bool.false_eq_true, if_false, if_true] at rb
              simp (maxDischargeDepth := 9) only [go_sem, ↓reduceIte, reduceCtorEq, Nat.reduceEqDiff, Int.reduceLE, Int.reduceLT, Int.reduceEq, Int.reduceNeg, Int.reduceAdd, Int.reduceSub, Nat.reduceAdd, Nat.reduceLeDiff, argFr, hok, AH.ext_nil, strOp, List.cons.injEq, false_and, and_false, or_self, or_false, false_or, true_or, or_true, encEs_len, Int.natCast_zero, Int.natCast_one, Int.cast_ofNat_Int, nat2, nat3, L_ref10_Kind_0_eq, wl1, wl2, wl3, Int.toNat_zero, Int.reduceToNat, Int.natCast_add, Int.reduceMul, Nat.reduceMul, ge_iff_le, encEs, encE_eq, kSs, kOp, eachS, alikeS, mustS, KD.to, resR, ra, qa, rb, qb, ]
            · simp only [Bool.false_eq_true, if_false, if_true] at rb
              simp (maxDischargeDepth := 9) only [go_sem, ↓reduceIte, reduceCtorEq, Nat.reduceEqDiff, Int.reduceLE, Int.reduceLT, Int.reduceEq, Int.reduceNeg, Int.reduceAdd, Int.reduceSub, Nat.reduceAdd, Nat.reduceLeDiff, argFr, hok, AH.ext_nil, strOp, List.cons.injEq, false_and, and_false, or_self, or_false, false_or, true_or, or_true, encEs_len, Int.natCast_zero, Int.natCast_one, Int.cast_ofNat_Int, nat2, nat3, L_ref10_Kind_0_eq, wl1, wl2, wl3, Int.toNat_zero, Int.reduceToNat, Int.natCast_add, Int.reduceMul, Nat.reduceMul, ge_iff_le, encEs, encE_eq, kSs, kOp, eachS, alikeS, mustS, KD.to, resR, ra, qa, rb, qb, ]
        · simp only [Bool.false_eq_true, if_false, if_true] at ra
          have rb := hb g hok
          cases qb : kS l b with
          | err p n =>
            rw [qb] at rb nb
            simp only [resR] at rb
            have nn : (n = 0) = False := by rcases nb with rfl | rfl | rfl <;> simp
            simp (maxDischargeDepth := 9) only [go_sem, ↓reduceIte, reduceCtorEq, Nat.reduceEqDiff, Int.reduceLE, Int.reduceLT, Int.reduceEq, Int.reduceNeg, Int.reduceAdd, Int.reduceSub, Nat.reduceAdd, Nat.reduceLeDiff, argFr, hok, AH.ext_nil, strOp, List.cons.injEq, false_and, and_false, or_self, or_false, false_or, true_or, or_true, encEs_len, Int.natCast_zero, Int.natCast_one, Int.cast_ofNat_Int, nat2, nat3, L_ref10_Kind_0_eq, wl1, wl2, wl3, Int.toNat_zero, Int.reduceToNat, Int.natCast_add, Int.reduceMul, Nat.reduceMul, ge_iff_le, encEs, encE_eq, kSs, kOp, eachS, alikeS, mustS, KD.to, resR, ra, qa, rb, qb, nn]
          | ok bb =>
            rw [qb] at rb
            simp only [resR] at rb
            cases bb
            · simp only [Bool.false_eq_true, if_false, if_true] at rb
              simp (maxDischargeDepth := 9) only [go_sem, ↓reduceIte, reduceCtorEq, Nat.reduceEqDiff, Int.reduceLE, Int.reduceLT, Int.reduceEq, Int.reduceNeg, Int.reduceAdd, Int.reduceSub, Nat.reduceAdd, Nat.reduceLeDiff, argFr, hok, AH.ext_nil, strOp, List.cons.injEq, false_and, and_false, or_self, or_false, false_or, true_or, or_true, encEs_len, Int.natCast_zero, Int.natCast_one, Int.cast_ofNat_Int, nat2, nat3, L_ref10_Kind_0_eq, wl1, wl2, wl3, Int.toNat_zero, Int.reduceToNat, Int.natCast_add, Int.reduceMul, Nat.reduceMul, ge_iff_le, encEs, encE_eq, kSs, kOp, eachS, alikeS, mustS, KD.to, resR, ra, qa, rb, qb, ]
            · simp only [Bool.false_eq_true, if_false, if_true] at rb
              simp (maxDischargeDepth := 9) only [go_sem, ↓reduceIte, reduceCtorEq, Nat.reduceEqDiff, Int.reduceLE, Int.reduceLT, Int.reduceEq, Int.reduceNeg, Int.reduceAdd, Int.reduceSub, Nat.reduceAdd, Nat.reduceLeDiff, argFr, hok, AH.ext_nil, strOp, List.cons.injEq, false_and, and_false, or_self, or_false, false_or, true_or, or_true, encEs_len, Int.natCast_zero, Int.natCast_one, Int.cast_ofNat_Int, nat2, nat3, L_ref10_Kind_0_eq, wl1, wl2, wl3, Int.toNat_zero, Int.reduceToNat, Int.natCast_add, Int.reduceMul, Nat.reduceMul, ge_iff_le, encEs, encE_eq, kSs, kOp, eachS, alikeS, mustS, KD.to, resR, ra, qa, rb, qb, ]
    · rw [e] at hw ⊢
      obtain ⟨a, b, c, hn⟩ : ∃ a b c, x.kids = [a, b, c] := by
        match hx : x.kids, hw with
        | [a, b, c], _ => exact ⟨a, b, c, rfl⟩
      rw [hn] at hk ⊢
      have ha := hk a (by simp)
      have na := kN l a
      have hb := hk b (by simp)
      have nb := kN l b
      have hc := hk c (by simp)
      have nc := kN l c
      have ra := ha g hok
      cases qa : kS l a with
      | err p n =>
        rw [qa] at ra na
        simp only [resR] at ra
        have nn : (n = 0) = False := by rcases na with rfl | rfl | rfl <;> simp
        simp (maxDischargeDepth := 9) only [go_sem, ↓reduceIte, reduceCtorEq, Nat.reduceEqDiff, Int.reduceLE, Int.reduceLT, Int.reduceEq, Int.reduceNeg, Int.reduceAdd, Int.reduceSub, Nat.reduceAdd, Nat.reduceLeDiff, argFr, hok, AH.ext_nil, strOp, List.cons.injEq, false_and, and_false, or_self, or_false, false_or, true_or, or_true, encEs_len, Int.natCast_zero, Int.natCast_one, Int.cast_ofNat_Int, nat2, nat3, L_ref10_Kind_0_eq, wl1, wl2, wl3, Int.toNat_zero, Int.reduceToNat, Int.natCast_add, Int.reduceMul, Nat.reduceMul, ge_iff_le, encEs, encE_eq, kSs, kOp, eachS, alikeS, mustS, KD.to, resR, ra, qa, nn]
      | ok ba =>
        rw [qa] at ra
        simp only [resR] at ra
        cases ba
        · simp only [Bool.false_eq_true, if_false, if_true] at ra
          have rb := hb g hok
          cases qb : kS l b with
          | err p n =>
            rw [qb] at rb nb
            simp only [resR] at rb
            have nn : (n = 0) = False := by rcases nb with rfl | rfl | rfl <;> simp
            simp (maxDischargeDepth := 9) only [go_sem, ↓reduceIte, reduceCtorEq, Nat.reduceEqDiff, Int.reduceLE, Int.reduceLT, Int.reduceEq, Int.reduceNeg, Int.reduceAdd, Int.reduceSub, Nat.reduceAdd, Nat.reduceLeDiff, argFr, hok, AH.ext_nil, strOp, List.cons.injEq, false_and, and_false, or_self, or_false, false_or, true_or, or_true, encEs_len, Int.natCast_zero, Int.natCast_one, Int.cast_ofNat_Int, nat2, nat3, L_ref10_Kind_0_eq, wl1, wl2, wl3, Int.toNat_zero, Int.reduceToNat, Int.natCast_add, Int.reduceMul, Nat.reduceMul, ge_iff_le, encEs, encE_eq, kSs, kOp, eachS, alikeS, mustS, KD.to, resR, ra, qa, rb, qb, nn]
          | ok bb =>
            rw [qb] at rb
            simp only [resR] at rb
            cases bb
            · simp only [Bool.false_eq_true, if_false, if_true] at rb
              have rc := hc g hok
              cases qc : kS l c with
              | err p n =>
                rw [qc] at rc nc
                simp only [resR] at rc
                have nn : (n = 0) = False := by rcases nc with rfl | rfl | rfl <;> simp
                simp (maxDischargeDepth := 9) only [go_sem, ↓reduceIte, reduceCtorEq, Nat.reduceEqDiff, Int.reduceLE, Int.reduceLT, Int.reduceEq, Int.reduceNeg, Int.reduceAdd, Int.reduceSub, Nat.reduceAdd, Nat.reduceLeDiff, argFr, hok, AH.ext_nil, strOp, List.cons.injEq, false_and, and_false, or_self, or_false, false_or, true_or, or_true, encEs_len, Int.natCast_zero, Int.natCast_one, Int.cast_ofNat_Int, nat2, nat3, L_ref10_Kind_0_eq, wl1, wl2, wl3, Int.toNat_zero, Int.reduceToNat, Int.natCast_add, Int.reduceMul, Nat.reduceMul, ge_iff_le, encEs, encE_eq, kSs, kOp, eachS, alikeS, mustS, KD.to, resR, ra, qa, rb, qb, rc, qc, nn]
              | ok bc =>
                rw [qc] at rc
                simp only [resR] at rc
                cases bc
                · simp only [Bool.false_eq_true, if_false, if_true] at rc
                  simp (maxDischargeDepth := 9) only [go_sem, ↓reduceIte, reduceCtorEq, Nat.reduceEqDiff, Int.reduceLE, Int.reduceLT, Int.reduceEq, Int.reduceNeg, Int.reduceAdd, Int.reduceSub, Nat.reduceAdd, Nat.reduceLeDiff, argFr, hok, AH.ext_nil, strOp, List.cons.injEq, false_and, and_false, or_self, or_false, false_or, true_or, or_true, encEs_len, Int.natCast_zero, Int.natCast_one, Int.cast_ofNat_Int, nat2, nat3, L_ref10_Kind_0_eq, wl1, wl2, wl3, Int.toNat_zero, Int.reduceToNat, Int.natCast_add, Int.reduceMul, Nat.reduceMul, ge_iff_le, encEs, encE_eq, kSs, kOp, eachS, alikeS, mustS, KD.to, resR, ra, qa, rb, qb, rc, qc, ]
                · simp only [Bool.false_eq_true, if_false, if_true] at rc
                  simp (maxDischargeDepth := 9) only [go_sem, ↓reduceIte, reduceCtorEq, Nat.reduceEqDiff, Int.reduceLE, Int.reduceLT, Int.reduceEq, Int.reduceNeg, Int.reduceAdd, Int.reduceSub, Nat.reduceAdd, Nat.reduceLeDiff, argFr, hok, AH.ext_nil, strOp, List.cons.injEq, false_and, and_false, or_self, or_false, false_or, true_or, or_true, encEs_len, Int.natCast_zero, Int.natCast_one, Int.cast_ofNat_Int, nat2, nat3, L_ref10_Kind_0_eq, wl1, wl2, wl3, Int.toNat_zero, Int.reduceToNat, Int.natCast_add, Int.reduceMul, Nat.reduceMul, ge_iff_le, encEs, encE_eq, kSs, kOp, eachS, alikeS, mustS, KD.to, resR, ra, qa, rb, qb, rc, qc, ]
            · simp only [Bool.false_eq_true, if_false, if_true] at rb
              have rc := hc g hok
              cases qc : kS l c with
              | err p n =>
                rw [qc] at rc nc
                simp only [resR] at rc
                have nn : (n = 0) = False := by rcases nc with rfl | rfl | rfl <;> simp
                simp (maxDischargeDepth := 9) only [go_sem, ↓reduceIte, reduceCtorEq, Nat.reduceEqDiff, Int.reduceLE, Int.reduceLT, Int.reduceEq, Int.reduceNeg, Int.reduceAdd, Int.reduceSub, Nat.reduceAdd, Nat.reduceLeDiff, argFr, hok, AH.ext_nil, strOp, List.cons.injEq, false_and, and_false, or_self, or_false, false_or, true_or, or_true, encEs_len, Int.natCast_zero, Int.natCast_one, Int.cast_ofNat_Int, nat2, nat3, L_ref10_Kind_0_eq, wl1, wl2, wl3, Int.toNat_zero, Int.reduceToNat, Int.natCast_add, Int.reduceMul, Nat.reduceMul, ge_iff_le, encEs, encE_eq, kSs, kOp, eachS, alikeS, mustS, KD.to, resR, ra, qa, rb, qb, rc, qc, nn]
              | ok bc =>
                rw [qc] at rc
                simp only [resR] at rc
                cases bc
                · simp only [Bool.false_eq_true, if_false, if_true] at rc
                  simp (maxDischargeDepth := 9) only [go_sem, ↓reduceIte, reduceCtorEq, Nat.reduceEqDiff, Int.reduceLE, Int.reduceLT, Int.reduceEq, Int.reduceNeg, Int.reduceAdd, Int.reduceSub, Nat.reduceAdd, Nat.reduceLeDiff, argFr, hok, AH.ext_nil, strOp, List.cons.injEq, false_and, and_false, or_self, or_false, false_or, true_or, or_true, encEs_len, Int.natCast_zero, Int.natCast_one, Int.cast_ofNat_Int, nat2, nat3, L_ref10_Kind_0_eq, wl1, wl2, wl3, Int.toNat_zero, Int.reduceToNat, Int.natCast_add, Int.reduceMul, Nat.reduceMul, ge_iff_le, encEs, encE_eq, kSs, kOp, eachS, alikeS, mustS, KD.to, resR, ra, qa, rb, qb, rc, qc, ]
                · simp only [Bool.false_eq_true, if_false, if_true] at rc
                  simp (maxDischargeDepth := 9) only [go_sem, ↓reduceIte, reduceCtorEq, Nat.reduceEqDiff, Int.reduceLE, Int.reduceLT, Int.reduceEq, Int.reduceNeg, Int.reduceAdd, Int.reduceSub, Nat.reduceAdd, Nat.reduceLeDiff, argFr, hok, AH.ext_nil, strOp, List.cons.injEq, false_and, and_false, or_self, or_false, false_or, true_or, or_true, encEs_len, Int.natCast_zero, Int.natCast_one, Int.cast_ofNat_Int, nat2, nat3, L_ref10_Kind_0_eq, wl1, wl2, wl3, Int.toNat_zero, Int.reduceToNat, Int.natCast_add, Int.reduceMul, Nat.reduceMul, ge_iff_le, encEs, encE_eq, kSs, kOp, eachS, alikeS, mustS, KD.to, resR, ra, qa, rb, qb, rc, qc, ]
        · simp only [Bool.false_eq_true, if_false, if_true] at ra
          have rb := hb g hok
          cases qb : kS l b with
          | err p n =>
            rw [qb] at rb nb
            simp only [resR] at rb
            have nn : (n = 0) = False := by rcases nb with rfl | rfl | rfl <;> simp
            simp (maxDischargeDepth := 9) only [go_sem, ↓reduceIte, reduceCtorEq, Nat.reduceEqDiff, Int.reduceLE, Int.reduceLT, Int.reduceEq, Int.reduceNeg, Int.reduceAdd, Int.reduceSub, Nat.reduceAdd, Nat.reduceLeDiff, argFr, hok, AH.ext_nil, strOp, List.cons.injEq, false_and, and_false, or_self, or_false, false_or, true_or, or_true, encEs_len, Int.natCast_zero, Int.natCast_one, Int.cast_ofNat_Int, nat2, nat3, L_ref10_Kind_0_eq, wl1, wl2, wl3, Int.toNat_zero, Int.reduceToNat, Int.natCast_add, Int.reduceMul, Nat.reduceMul, ge_iff_le, encEs, encE_eq, kSs, kOp, eachS, alikeS, mustS, KD.to, resR, ra, qa, rb, qb, nn]
          | ok bb =>
            rw [qb] at rb
            simp only [resR] at rb
            cases bb
            · simp only [Bool.false_eq_true, if_false, if_true] at rb
              have rc := hc g hok
              cases qc : kS l c with
              | err p n =>
                rw [qc] at rc nc
                simp only [resR] at rc
                have nn : (n = 0) = False := by rcases nc with rfl | rfl | rfl <;> simp
                simp (maxDischargeDepth := 9) only [go_sem, ↓reduceIte, reduceCtorEq, Nat.reduceEqDiff, Int.reduceLE, Int.reduceLT, Int.reduceEq, Int.reduceNeg, Int.reduceAdd, Int.reduceSub, Nat.reduceAdd, Nat.reduceLeDiff, argFr, hok, AH.ext_nil, strOp, List.cons.injEq, false_and, and_false, or_self, or_false, false_or, true_or, or_true, encEs_len, Int.natCast_zero, Int.natCast_one, Int.cast_ofNat_Int, nat2, nat3, L_ref10_Kind_0_eq, wl1, wl2, wl3, Int.toNat_zero, Int.reduceToNat, Int.natCast_add, Int.reduceMul, Nat.reduceMul, ge_iff_le, encEs, encE_eq, kSs, kOp, eachS, alikeS, mustS, KD.to, resR, ra, qa, rb, qb, rc, qc, nn]
              | ok bc =>
                rw [qc] at rc
                simp only [resR] at rc
                cases bc
                · simp only [Bool.false_eq_true, if_false, if_true] at rc
                  simp (maxDischargeDepth := 9) only [go_sem, ↓reduceIte, reduceCtorEq, Nat.reduceEqDiff, Int.reduceLE, Int.reduceLT, Int.reduceEq, Int.reduceNeg, Int.reduceAdd, Int.reduceSub, Nat.reduceAdd, Nat.reduceLeDiff, argFr, hok, AH.ext_nil, strOp, List.cons.injEq, false_and, and_false, or_self, or_false, false_or, true_or, or_true, encEs_len, Int.natCast_zero, Int.natCast_one, Int.cast_ofNat_Int, nat2, nat3, L_ref10_Kind_0_eq, wl1, wl2, wl3, Int.toNat_zero, Int.reduceToNat, Int.natCast_add, Int.reduceMul, Nat.reduceMul, ge_iff_le, encEs, encE_eq, kSs, kOp, eachS, alikeS, mustS, KD.to, resR, ra, qa, rb, qb, rc, qc, ]
                · simp only [Bool.false_eq_true, if_false, if_true] at rc
                  simp (maxDischargeDepth := 9) only [go_sem, ↓reduceIte, reduceCtorEq, Nat.reduceEqDiff, Int.reduceLE, Int.reduceLT, Int.reduceEq, Int.reduceNeg, Int.reduceAdd, Int.reduceSub, Nat.reduceAdd, Nat.reduceLeDiff, argFr, hok, AH.ext_nil, strOp, List.cons.injEq, false_and, and_false, or_self, or_false, false_or, true_or, or_true, encEs_len, Int.natCast_zero, Int.natCast_one, Int.cast_ofNat_Int, nat2, nat3, L_ref10_Kind_0_eq, wl1, wl2, wl3, Int.toNat_zero, Int.reduceToNat, Int.natCast_add, Int.reduceMul, Nat.reduceMul, ge_iff_le, encEs, encE_eq, kSs, kOp, eachS, alikeS, mustS, KD.to, resR, ra, qa, rb, qb, rc, qc, ]
            · simp only [Bool.false_eq_true, if_false, if_true] at rb
              have rc := hc g hok
              cases qc : kS l c with
              | err p n =>
                rw [qc] at rc nc
                simp only [resR] at rc
                have nn : (n = 0) = False := by rcases nc with rfl | rfl | rfl <;> simp
                simp (maxDischargeDepth := 9) only [go_sem, ↓reduceIte, reduceCtorEq, Nat.reduceEqDiff, Int.reduceLE, Int.reduceLT, Int.reduceEq, Int.reduceNeg, Int.reduceAdd, Int.reduceSub, Nat.reduceAdd, Nat.reduceLeDiff, argFr, hok, AH.ext_nil, strOp, List.cons.injEq, false_and, and_false, or_self, or_false, false_or, true_or, or_true, encEs_len, Int.natCast_zero, Int.natCast_one, Int.cast_ofNat_Int, nat2, nat3, L_ref10_Kind_0_eq, wl1, wl2, wl3, Int.toNat_zero, Int.reduceToNat, Int.natCast_add, Int.reduceMul, Nat.reduceMul, ge_iff_le, encEs, encE_eq, kSs, kOp, eachS, alikeS, mustS, KD.to, resR, ra, qa, rb, qb, rc, qc, nn]
              | ok bc =>
                rw [qc] at rc
                simp only [resR] at rc
                cases bc
                · simp only [Bool.false_eq_true, if_false, if_true] at rc
                  simp (maxDischargeDepth := 9) only [go_sem, ↓reduceIte, reduceCtorEq, Nat.reduceEqDiff, Int.reduceLE, Int.reduceLT, Int.reduceEq, Int.reduceNeg, Int.reduceAdd, Int.reduceSub, Nat.reduceAdd, Nat.reduceLeDiff, argFr, hok, AH.ext_nil, strOp, List.cons.injEq, false_and, and_false, or_self, or_false, false_or, true_or, or_true, encEs_len, Int.natCast_zero, Int.natCast_one, Int.cast_ofNat_Int, nat2, nat3, L_ref10_Kind_0_eq, wl1, wl2, wl3, Int.toNat_zero, Int.reduceToNat, Int.natCast_add, Int.reduceMul, Nat.reduceMul, ge_iff_le, encEs, encE_eq, kSs, kOp, eachS, alikeS, mustS, KD.to, resR, ra, qa, rb, qb, rc, qc, ]
                · simp only [Bool.false_eq_true, if_false, if_true] at rc
                  simp (maxDischargeDepth := 9) only [go_sem, ↓reduceIte, reduceCtorEq, Nat.reduceEqDiff, Int.reduceLE, Int.reduceLT, Int.reduceEq, Int.reduceNeg, Int.reduceAdd, Int.reduceSub, Nat.reduceAdd, Nat.reduceLeDiff, argFr, hok, AH.ext_nil, strOp, List.cons.injEq, false_and, and_false, or_self, or_false, false_or, true_or, or_true, encEs_len, Int.natCast_zero, Int.natCast_one, Int.cast_ofNat_Int, nat2, nat3, L_ref10_Kind_0_eq, wl1, wl2, wl3, Int.toNat_zero, Int.reduceToNat, Int.natCast_add, Int.reduceMul, Nat.reduceMul, ge_iff_le, encEs, encE_eq, kSs, kOp, eachS, alikeS, mustS, KD.to, resR, ra, qa, rb, qb, rc, qc, ]
    · simp (maxDischargeDepth := 9) only [go_sem, ↓reduceIte, reduceCtorEq, Nat.reduceEqDiff, Int.reduceLE, Int.reduceLT, Int.reduceEq, Int.reduceNeg, Int.reduceAdd, Int.reduceSub, Nat.reduceAdd, Nat.reduceLeDiff, argFr, hok, AH.ext_nil, strOp, List.cons.injEq, false_and, and_false, or_self, or_false, false_or, true_or, or_true, encEs_len, Int.natCast_zero, Int.natCast_one, Int.cast_ofNat_Int, nat2, nat3, L_ref10_Kind_0_eq, wl1, wl2, wl3, Int.toNat_zero, Int.reduceToNat, Int.natCast_add, Int.reduceMul, Nat.reduceMul, ge_iff_le, kOp, resR, h1, h2, h3, h4, h5, h6, h7, h8, h9, i1, i2, i3, i4, i5, i6, i7, i8, i9, j1]
  · have hq : kOp l x.op x.nm x.pos (kSs l x.kids) = .err x.pos 1 := kOp_want (by rw [kSs_len]; exact hw)
    rw [C_XS' E_ref10_Kind _ _ rfl, hq]
    rcases op_cases x.op with e | e | e | e | e | e | e | e | e | e | e | e | e | e | e | e | e | e | e | ⟨h1, h2, h3, h4, h5, h6, h7, h8, h9, i1, i2, i3, i4, i5, i6, i7, i8, i9, j1⟩
    · rw [e] at hw
      rw [e]
      have hw' : ((x.kids.length : Int) = 0) = False := by simp only [eq_iff_iff, iff_false]; intro h; exact hw (by show _ = 0; omega)
      simp (maxDischargeDepth := 9) only [go_sem, ↓reduceIte, reduceCtorEq, Nat.reduceEqDiff, Int.reduceLE, Int.reduceLT, Int.reduceEq, Int.reduceNeg, Int.reduceAdd, Int.reduceSub, Nat.reduceAdd, Nat.reduceLeDiff, argFr, hok, AH.ext_nil, strOp, List.cons.injEq, false_and, and_false, or_self, or_false, false_or, true_or, or_true, encEs_len, Int.natCast_zero, Int.natCast_one, Int.cast_ofNat_Int, nat2, nat3, L_ref10_Kind_0_eq, wl1, wl2, wl3, Int.toNat_zero, Int.reduceToNat, Int.natCast_add, Int.reduceMul, Nat.reduceMul, ge_iff_le, hw', resR]
    · rw [e] at hw
      rw [e]
      have hw' : ((x.kids.length : Int) = 0) = False := by simp only [eq_iff_iff, iff_false]; intro h; exact hw (by show _ = 0; omega)
      simp (maxDischargeDepth := 9) only [go_sem, ↓reduceIte, reduceCtorEq, Nat.reduceEqDiff, Int.reduceLE, Int.reduceLT, Int.reduceEq, Int.reduceNeg, Int.reduceAdd, Int.reduceSub, Nat.reduceAdd, Nat.reduceLeDiff, argFr, hok, AH.ext_nil, strOp, List.cons.injEq, false_and, and_false, or_self, or_false, false_or, true_or, or_true, encEs_len, Int.natCast_zero, Int.natCast_one, Int.cast_ofNat_Int, nat2, nat3, L_ref10_Kind_0_eq, wl1, wl2, wl3, Int.toNat_zero, Int.reduceToNat, Int.natCast_add, Int.reduceMul, Nat.reduceMul, ge_iff_le, hw', resR]
    · rw [e] at hw
      rw [e]
      have hw' : ((x.kids.length : Int) = 0) = False := by simp only [eq_iff_iff, iff_false]; intro h; exact hw (by show _ = 0; omega)
      simp (maxDischargeDepth := 9) only [go_sem, ↓reduceIte, reduceCtorEq, Nat.reduceEqDiff, Int.reduceLE, Int.reduceLT, Int.reduceEq, Int.reduceNeg, Int.reduceAdd, Int.reduceSub, Nat.reduceAdd, Nat.reduceLeDiff, argFr, hok, AH.ext_nil, strOp, List.cons.injEq, false_and, and_false, or_self, or_false, false_or, true_or, or_true, encEs_len, Int.natCast_zero, Int.natCast_one, Int.cast_ofNat_Int, nat2, nat3, L_ref10_Kind_0_eq, wl1, wl2, wl3, Int.toNat_zero, Int.reduceToNat, Int.natCast_add, Int.reduceMul, Nat.reduceMul, ge_iff_le, hw', resR]
    · rw [e] at hw
      rw [e]
      have hw' : ((x.kids.length : Int) = 0) = False := by simp only [eq_iff_iff, iff_false]; intro h; exact hw (by show _ = 0; omega)
      have hF := rfind_c (g := g) (tok := tok) hok x.nm hl
      rcases findS_cases l x.nm 0 with hf | ⟨j, hj, hf⟩
      · rw [hf] at hF
        simp (maxDischargeDepth := 9) only [go_sem, ↓reduceIte, reduceCtorEq, Nat.reduceEqDiff, Int.reduceLE, Int.reduceLT, Int.reduceEq, Int.reduceNeg, Int.reduceAdd, Int.reduceSub, Nat.reduceAdd, Nat.reduceLeDiff, argFr, hok, AH.ext_nil, strOp, List.cons.injEq, false_and, and_false, or_self, or_false, false_or, true_or, or_true, encEs_len, Int.natCast_zero, Int.natCast_one, Int.cast_ofNat_Int, nat2, nat3, L_ref10_Kind_0_eq, wl1, wl2, wl3, Int.toNat_zero, Int.reduceToNat, Int.natCast_add, Int.reduceMul, Nat.reduceMul, ge_iff_le, hw', resR, hF]
      · rw [Nat.zero_add] at hf
        rw [hf] at hF
        have hneg : ¬ ((j : Int) < 0) := by omega
        have h0 : (0 : Int) ≤ j := by omega
        have hg := encSs_get hj
        simp only [encS] at hg
        cases hb : l[j].bool
        all_goals
          rw [hb] at hg
          simp (maxDischargeDepth := 9) only [go_sem, ↓reduceIte, reduceCtorEq, Nat.reduceEqDiff, Int.reduceLE, Int.reduceLT, Int.reduceEq, Int.reduceNeg, Int.reduceAdd, Int.reduceSub, Nat.reduceAdd, Nat.reduceLeDiff, argFr, hok, AH.ext_nil, strOp, List.cons.injEq, false_and, and_false, or_self, or_false, false_or, true_or, or_true, encEs_len, Int.natCast_zero, Int.natCast_one, Int.cast_ofNat_Int, nat2, nat3, L_ref10_Kind_0_eq, wl1, wl2, wl3, Int.toNat_zero, Int.reduceToNat, Int.natCast_add, Int.reduceMul, Nat.reduceMul, ge_iff_le, hw', resR, hF, hneg, h0, Int.toNat_natCast, hg]
    · rw [e] at hw
      rw [e]
      have hw' : ((x.kids.length : Int) = 1) = False := by simp only [eq_iff_iff, iff_false]; intro h; exact hw (by show _ = 1; omega)
      simp (maxDischargeDepth := 9) only [go_sem, ↓reduceIte, reduceCtorEq, Nat.reduceEqDiff, Int.reduceLE, Int.reduceLT, Int.reduceEq, Int.reduceNeg, Int.reduceAdd, Int.reduceSub, Nat.reduceAdd, Nat.reduceLeDiff, argFr, hok, AH.ext_nil, strOp, List.cons.injEq, false_and, and_false, or_self, or_false, false_or, true_or, or_true, encEs_len, Int.natCast_zero, Int.natCast_one, Int.cast_ofNat_Int, nat2, nat3, L_ref10_Kind_0_eq, wl1, wl2, wl3, Int.toNat_zero, Int.reduceToNat, Int.natCast_add, Int.reduceMul, Nat.reduceMul, ge_iff_le, hw', resR]
    · rw [e] at hw
      rw [e]
      have hw' : ((x.kids.length : Int) = 1) = False := by simp only [eq_iff_iff, iff_false]; intro h; exact hw (by show _ = 1; omega)
      simp (maxDischargeDepth := 9) only [go_sem, ↓reduceIte, reduceCtorEq, Nat.reduceEqDiff, Int.reduceLE, Int.reduceLT, Int.reduceEq, Int.reduceNeg, Int.reduceAdd, Int.reduceSub, Nat.reduceAdd, Nat.reduceLeDiff, argFr, hok, AH.ext_nil, strOp, List.cons.injEq, false_and, and_false, or_self, or_false, false_or, true_or, or_true, encEs_len, Int.natCast_zero, Int.natCast_one, Int.cast_ofNat_Int, nat2, nat3, L_ref10_Kind_0_eq, wl1, wl2, wl3, Int.toNat_zero, Int.reduceToNat, Int.natCast_add, Int.reduceMul, Nat.reduceMul, ge_iff_le, hw', resR]
    · rw [e] at hw
      rw [e]
      have hw' : ((x.kids.length : Int) = 2) = False := by simp only [eq_iff_iff, iff_false]; intro h; exact hw (by show _ = 2; omega)
      simp (maxDischargeDepth := 9) only [go_sem, ↓reduceIte, reduceCtorEq, Nat.reduceEqDiff, Int.reduceLE, Int.reduceLT, Int.reduceEq, Int.reduceNeg, Int.reduceAdd, Int.reduceSub, Nat.reduceAdd, Nat.reduceLeDiff, argFr, hok, AH.ext_nil, strOp, List.cons.injEq, false_and, and_false, or_self, or_false, false_or, true_or, or_true, encEs_len, Int.natCast_zero, Int.natCast_one, Int.cast_ofNat_Int, nat2, nat3, L_ref10_Kind_0_eq, wl1, wl2, wl3, Int.toNat_zero, Int.reduceToNat, Int.natCast_add, Int.reduceMul, Nat.reduceMul, ge_iff_le, hw', resR]
    · rw [e] at hw
      rw [e]
      have hw' : ((x.kids.length : Int) = 2) = False := by simp only [eq_iff_iff, iff_false]; intro h; exact hw (by show _ = 2; omega)
      simp (maxDischargeDepth := 9) only [go_sem, ↓reduceIte, reduceCtorEq, Nat.reduceEqDiff, Int.reduceLE, Int.reduceLT, Int.reduceEq, Int.reduceNeg, Int.reduceAdd, Int.reduceSub, Nat.reduceAdd, Nat.reduceLeDiff, argFr, hok, AH.ext_nil, strOp, List.cons.injEq, false_and, and_false, or_self, or_false, false_or, true_or, or_true, encEs_len, Int.natCast_zero, Int.natCast_one, Int.cast_ofNat_Int, nat2, nat3, L_ref10_Kind_0_eq, wl1, wl2, wl3, Int.toNat_zero, Int.reduceToNat, Int.natCast_add, Int.reduceMul, Nat.reduceMul, ge_iff_le, hw', resR]
    · rw [e] at hw
      rw [e]
      have hw' : ((x.kids.length : Int) = 2) = False := by simp only [eq_iff_iff, iff_false]; intro h; exact hw (by show _ = 2; omega)
      simp (maxDischargeDepth := 9) only [go_sem, ↓reduceIte, reduceCtorEq, Nat.reduceEqDiff, Int.reduceLE, Int.reduceLT, Int.reduceEq, Int.reduceNeg, Int.reduceAdd, Int.reduceSub, Nat.reduceAdd, Nat.reduceLeDiff, argFr, hok, AH.ext_nil, strOp, List.cons.injEq, false_and, and_false, or_self, or_false, false_or, true_or, or_true, encEs_len, Int.natCast_zero, Int.natCast_one, Int.cast_ofNat_Int, nat2, nat3, L_ref10_Kind_0_eq, wl1, wl2, wl3, Int.toNat_zero, Int.reduceToNat, Int.natCast_add, Int.reduceMul, Nat.reduceMul, ge_iff_le, hw', resR]
    · rw [e] at hw
      rw [e]
      have hw' : ((x.kids.length : Int) = 2) = False := by simp only [eq_iff_iff, iff_false]; intro h; exact hw (by show _ = 2; omega)
      simp (maxDischargeDepth := 9) only [go_sem, ↓reduceIte, reduceCtorEq, Nat.reduceEqDiff, Int.reduceLE, Int.reduceLT, Int.reduceEq, Int.reduceNeg, Int.reduceAdd, Int.reduceSub, Nat.reduceAdd, Nat.reduceLeDiff, argFr, hok, AH.ext_nil, strOp, List.cons.injEq, false_and, and_false, or_self, or_false, false_or, true_or, or_true, encEs_len, Int.natCast_zero, Int.natCast_one, Int.cast_ofNat_Int, nat2, nat3, L_ref10_Kind_0_eq, wl1, wl2, wl3, Int.toNat_zero, Int.reduceToNat, Int.natCast_add, Int.reduceMul, Nat.reduceMul, ge_iff_le, hw', resR]
    · rw [e] at hw
      rw [e]
      have hw' : ((x.kids.length : Int) = 2) = False := by simp only [eq_iff_iff, iff_false]; intro h; exact hw (by show _ = 2; omega)
      simp (maxDischargeDepth := 9) only [go_sem, ↓reduceIte, reduceCtorEq, Nat.reduceEqDiff, Int.reduceLE, Int.reduceLT, Int.reduceEq, Int.reduceNeg, Int.reduceAdd, Int.reduceSub, Nat.reduceAdd, Nat.reduceLeDiff, argFr, hok, AH.ext_nil, strOp, List.cons.injEq, false_and, and_false, or_self, or_false, false_or, true_or, or_true, encEs_len, Int.natCast_zero, Int.natCast_one, Int.cast_ofNat_Int, nat2, nat3, L_ref10_Kind_0_eq, wl1, wl2, wl3, Int.toNat_zero, Int.reduceToNat, Int.natCast_add, Int.reduceMul, Nat.reduceMul, ge_iff_le, hw', resR]
    · rw [e] at hw
      rw [e]
      have hw' : ((x.kids.length : Int) = 2) = False := by simp only [eq_iff_iff, iff_false]; intro h; exact hw (by show _ = 2; omega)
      simp (maxDischargeDepth := 9) only [go_sem, ↓reduceIte, reduceCtorEq, Nat.reduceEqDiff, Int.reduceLE, Int.reduceLT, Int.reduceEq, Int.reduceNeg, Int.reduceAdd, Int.reduceSub, Nat.reduceAdd, Nat.reduceLeDiff, argFr, hok, AH.ext_nil, strOp, List.cons.injEq, false_and, and_false, or_self, or_false, false_or, true_or, or_true, encEs_len, Int.natCast_zero, Int.natCast_one, Int.cast_ofNat_Int, nat2, nat3, L_ref10_Kind_0_eq, wl1, wl2, wl3, Int.toNat_zero, Int.reduceToNat, Int.natCast_add, Int.reduceMul, Nat.reduceMul, ge_iff_le, hw', resR]
    · rw [e] at hw
      rw [e]
      have hw' : ((x.kids.length : Int) = 2) = False := by simp only [eq_iff_iff, iff_false]; intro h; exact hw (by show _ = 2; omega)
      simp (maxDischargeDepth := 9) only [go_sem, ↓reduceIte, reduceCtorEq, Nat.reduceEqDiff, Int.reduceLE, Int.reduceLT, Int.reduceEq, Int.reduceNeg, Int.reduceAdd, Int.reduceSub, Nat.reduceAdd, Nat.reduceLeDiff, argFr, hok, AH.ext_nil, strOp, List.cons.injEq, false_and, and_false, or_self, or_false, false_or, true_or, or_true, encEs_len, Int.natCast_zero, Int.natCast_one, Int.cast_ofNat_Int, nat2, nat3, L_ref10_Kind_0_eq, wl1, wl2, wl3, Int.toNat_zero, Int.reduceToNat, Int.natCast_add, Int.reduceMul, Nat.reduceMul, ge_iff_le, hw', resR]
    · rw [e] at hw
      rw [e]
      have hw' : ((x.kids.length : Int) = 2) = False := by simp only [eq_iff_iff, iff_false]; intro h; exact hw (by show _ = 2; omega)
      simp (maxDischargeDepth := 9) only [go_sem, ↓reduceIte, reduceCtorEq, Nat.reduceEqDiff, Int.reduceLE, Int.reduceLT, Int.reduceEq, Int.reduceNeg, Int.reduceAdd, Int.reduceSub, Nat.reduceAdd, Nat.reduceLeDiff, argFr, hok, AH.ext_nil, strOp, List.cons.injEq, false_and, and_false, or_self, or_false, false_or, true_or, or_true, encEs_len, Int.natCast_zero, Int.natCast_one, Int.cast_ofNat_Int, nat2, nat3, L_ref10_Kind_0_eq, wl1, wl2, wl3, Int.toNat_zero, Int.reduceToNat, Int.natCast_add, Int.reduceMul, Nat.reduceMul, ge_iff_le, hw', resR]
    · rw [e] at hw
      rw [e]
      have hw' : ((x.kids.length : Int) = 2) = False := by simp only [eq_iff_iff, iff_false]; intro h; exact hw (by show _ = 2; omega)
      simp (maxDischargeDepth := 9) only [go_sem, ↓reduceIte, reduceCtorEq, Nat.reduceEqDiff, Int.reduceLE, Int.reduceLT, Int.reduceEq, Int.reduceNeg, Int.reduceAdd, Int.reduceSub, Nat.reduceAdd, Nat.reduceLeDiff, argFr, hok, AH.ext_nil, strOp, List.cons.injEq, false_and, and_false, or_self, or_false, false_or, true_or, or_true, encEs_len, Int.natCast_zero, Int.natCast_one, Int.cast_ofNat_Int, nat2, nat3, L_ref10_Kind_0_eq, wl1, wl2, wl3, Int.toNat_zero, Int.reduceToNat, Int.natCast_add, Int.reduceMul, Nat.reduceMul, ge_iff_le, hw', resR]
    · rw [e] at hw
      rw [e]
      have hw' : ((x.kids.length : Int) = 2) = False := by simp only [eq_iff_iff, iff_false]; intro h; exact hw (by show _ = 2; omega)
      simp (maxDischargeDepth := 9) only [go_sem, ↓reduceIte, reduceCtorEq, Nat.reduceEqDiff, Int.reduceLE, Int.reduceLT, Int.reduceEq, Int.reduceNeg, Int.reduceAdd, Int.reduceSub, Nat.reduceAdd, Nat.reduceLeDiff, argFr, hok, AH.ext_nil, strOp, List.cons.injEq, false_and, and_false, or_self, or_false, false_or, true_or, or_true, encEs_len, Int.natCast_zero, Int.natCast_one, Int.cast_ofNat_Int, nat2, nat3, L_ref10_Kind_0_eq, wl1, wl2, wl3, Int.toNat_zero, Int.reduceToNat, Int.natCast_add, Int.reduceMul, Nat.reduceMul, ge_iff_le, hw', resR]
    · rw [e] at hw
      rw [e]
      have hw' : ((x.kids.length : Int) = 2) = False := by simp only [eq_iff_iff, iff_false]; intro h; exact hw (by show _ = 2; omega)
      simp (maxDischargeDepth := 9) only [go_sem, ↓reduceIte, reduceCtorEq, Nat.reduceEqDiff, Int.reduceLE, Int.reduceLT, Int.reduceEq, Int.reduceNeg, Int.reduceAdd, Int.reduceSub, Nat.reduceAdd, Nat.reduceLeDiff, argFr, hok, AH.ext_nil, strOp, List.cons.injEq, false_and, and_false, or_self, or_false, false_or, true_or, or_true, encEs_len, Int.natCast_zero, Int.natCast_one, Int.cast_ofNat_Int, nat2, nat3, L_ref10_Kind_0_eq, wl1, wl2, wl3, Int.toNat_zero, Int.reduceToNat, Int.natCast_add, Int.reduceMul, Nat.reduceMul, ge_iff_le, hw', resR]
    · rw [e] at hw
      rw [e]
      have hw' : ((x.kids.length : Int) = 2) = False := by simp only [eq_iff_iff, iff_false]; intro h; exact hw (by show _ = 2; omega)
      simp (maxDischargeDepth := 9) only [go_sem, ↓reduceIte, reduceCtorEq, Nat.reduceEqDiff, Int.reduceLE, Int.reduceLT, Int.reduceEq, Int.reduceNeg, Int.reduceAdd, Int.reduceSub, Nat.reduceAdd, Nat.reduceLeDiff, argFr, hok, AH.ext_nil, strOp, List.cons.injEq, false_and, and_false, or_self, or_false, false_or, true_or, or_true, encEs_len, Int.natCast_zero, Int.natCast_one, Int.cast_ofNat_Int, nat2, nat3, L_ref10_Kind_0_eq, wl1, wl2, wl3, Int.toNat_zero, Int.reduceToNat, Int.natCast_add, Int.reduceMul, Nat.reduceMul, ge_iff_le, hw', resR]
    · rw [e] at hw
      rw [e]
      have hw' : ((x.kids.length : Int) = 3) = False := by simp only [eq_iff_iff, iff_false]; intro h; exact hw (by show _ = 3; omega)
      simp (maxDischargeDepth := 9) only [go_sem, ↓reduceIte, reduceCtorEq, Nat.reduceEqDiff, Int.reduceLE, Int.reduceLT, Int.reduceEq, Int.reduceNeg, Int.reduceAdd, Int.reduceSub, Nat.reduceAdd, Nat.reduceLeDiff, argFr, hok, AH.ext_nil, strOp, List.cons.injEq, false_and, and_false, or_self, or_false, false_or, true_or, or_true, encEs_len, Int.natCast_zero, Int.natCast_one, Int.cast_ofNat_Int, nat2, nat3, L_ref10_Kind_0_eq, wl1, wl2, wl3, Int.toNat_zero, Int.reduceToNat, Int.natCast_add, Int.reduceMul, Nat.reduceMul, ge_iff_le, hw', resR]
    · simp (maxDischargeDepth := 9) only [go_sem, ↓reduceIte, reduceCtorEq, Nat.reduceEqDiff, Int.reduceLE, Int.reduceLT, Int.reduceEq, Int.reduceNeg, Int.reduceAdd, Int.reduceSub, Nat.reduceAdd, Nat.reduceLeDiff, argFr, hok, AH.ext_nil, strOp, List.cons.injEq, false_and, and_false, or_self, or_false, false_or, true_or, or_true, encEs_len, Int.natCast_zero, Int.natCast_one, Int.cast_ofNat_Int, nat2, nat3, L_ref10_Kind_0_eq, wl1, wl2, wl3, Int.toNat_zero, Int.reduceToNat, Int.natCast_add, Int.reduceMul, Nat.reduceMul, ge_iff_le, resR, h1, h2, h3, h4, h5, h6, h7, h8, h9, i1, i2, i3, i4, i5, i6, i7, i8, i9, j1]
end Go.Proofs.YtfahpmlckobpmaaGreatDoor.Pi
