/-
  The kind of an expression: by definition; a list of variables.
-/
import Derived.Test.YtfahpmlckobpmaaGreatDoorExprB
set_option linter.unusedSimpArgs false
set_option linter.unusedVariables false
set_option linter.unusedSectionVars false
namespace Go.Proofs.YtfahpmlckobpmaaGreatDoor.Pi
open Go

/-- a variable -/
structure Slt where
  name : List Nat
  mod : Int
  bool : Bool
  lo : Int
  hi : Int
  init : Int
def encS (s : Slt) : List AV := [.str s.name, .int .i64 s.mod, .bool s.bool, .int .i32 s.lo, .int .i32 s.hi, .int .i32 s.init]
def encSs (l : List Slt) : List (List AV) := l.map encS
theorem encSs_len (l : List Slt) : (encSs l).length = l.length := List.length_map ..
theorem encSs_get {l : List Slt} {i : Nat} (hi : i < l.length) : (encSs l)[i]? = some (encS l[i]) := by simp [encSs, get_some hi]
theorem encSs_z (l : List Slt) : ∀ r ∈ encSs l, r.length = 6 := by
  intro r hr
  obtain ⟨x, _, rfl⟩ := List.mem_map.1 hr
  rfl

/-- where a name stands; -1: nowhere -/
def findS (l : List Slt) (nm : List Nat) : Nat → Int
  | k => match l with
    | [] => -1
    | s :: r => if s.name = nm then (k : Int) else findS r nm (k + 1)
theorem findS_cases (l : List Slt) (nm : List Nat) (k : Nat) : findS l nm k = -1 ∨ ∃ j : Nat, j < l.length ∧ findS l nm k = ((k + j : Nat) : Int) := by
  induction l generalizing k with
  | nil => exact .inl rfl
  | cons s r ih =>
    unfold findS
    by_cases h : s.name = nm
    · exact .inr ⟨0, by simp, by simp [h]⟩
    · simp only [h, if_false]
      rcases ih (k + 1) with h1 | ⟨j, h1, h2⟩
      · exact .inl h1
      · exact .inr ⟨j + 1, by simp; omega, by rw [h2]; congr 1; omega⟩

inductive KD where
  | ok (b : Bool)
  | err (pos n : Int)

/-- a kid that must be so -/
def mustS (r : KD × Int) (t : Bool) : KD :=
  match r.1 with
  | .err p n => .err p n
  | .ok b => if b = t then .ok t else .err r.2 32
def eachS (t : Bool) : List (KD × Int) → KD
  | [] => .ok t
  | r :: rs => match mustS r t with
    | .err p n => .err p n
    | .ok _ => eachS t rs
def alikeS (a b : KD × Int) : KD :=
  match a.1 with
  | .err p n => .err p n
  | .ok x => mustS b x
def KD.to (r : KD) (b : Bool) : KD :=
  match r with
  | .err p n => .err p n
  | .ok _ => .ok b

def kOp (l : List Slt) (op nm : List Nat) (pos : Int) (rs : List (KD × Int)) : KD :=
  if op = [110, 117, 109] then (if rs.length = 0 then .ok false else .err pos 1)
  else if op = [116, 114, 117, 101] ∨ op = [102, 97, 108, 115, 101] then (if rs.length = 0 then .ok true else .err pos 1)
  else if op = [110, 97, 109, 101] then (if rs.length = 0 then (if findS l nm 0 < 0 then .err pos 30 else .ok (((l[(findS l nm 0).toNat]?).map Slt.bool).getD false)) else .err pos 1)
  else if op = [110, 101, 103] then (if rs.length = 1 then (eachS false rs).to false else .err pos 1)
  else if op = [33] then (if rs.length = 1 then (eachS true rs).to true else .err pos 1)
  else if op = [43] ∨ op = [45] ∨ op = [42] then (if rs.length = 2 then (eachS false rs).to false else .err pos 1)
  else if op = [60] ∨ op = [60, 61] ∨ op = [62] ∨ op = [62, 61] then (if rs.length = 2 then (eachS false rs).to true else .err pos 1)
  else if op = [38] ∨ op = [124] ∨ op = [61, 62] then (if rs.length = 2 then (eachS true rs).to true else .err pos 1)
  else if op = [61] ∨ op = [33, 61] then (match rs with | [a, b] => (alikeS a b).to true | _ => .err pos 1)
  else if op = [63] then (match rs with | [a, b, c] => (match mustS a true with | .err p n => .err p n | .ok _ => alikeS b c) | _ => .err pos 1)
  else .err pos 1

mutual
def kS (l : List Slt) : Xp → KD
  | .mk op nm _ kids pos => kOp l op nm pos (kSs l kids)
def kSs (l : List Slt) : List Xp → List (KD × Int)
  | [] => []
  | x :: r => (kS l x, x.pos) :: kSs l r
end
theorem kS_eq (l : List Slt) (x : Xp) : kS l x = kOp l x.op x.nm x.pos (kSs l x.kids) := by cases x; rfl
theorem kSs_map (l : List Slt) : ∀ (k : List Xp), kSs l k = k.map fun x => (kS l x, x.pos)
  | [] => rfl
  | x :: r => by simp only [kSs, List.map_cons, kSs_map l r]
theorem kSs_len (l : List Slt) (k : List Xp) : (kSs l k).length = k.length := by rw [kSs_map, List.length_map]

mutual
theorem Xp.ind {P : Xp → Prop} (h : ∀ x : Xp, (∀ k ∈ x.kids, P k) → P x) : ∀ x, P x
  | .mk op nm n kids pos => h _ (Xp.inds h kids)
theorem Xp.inds {P : Xp → Prop} (h : ∀ x : Xp, (∀ k ∈ x.kids, P k) → P x) : ∀ (l : List Xp), ∀ k ∈ l, P k
  | [], k, hk => by cases hk
  | x :: r, k, hk => by
    rcases List.mem_cons.1 hk with e | hk
    · rw [e]; exact Xp.ind h x
    · exact Xp.inds h r k hk
end

/-- an operation is one of these, or none -/
theorem op_cases (o : List Nat) : o = [110, 117, 109] ∨ o = [116, 114, 117, 101] ∨ o = [102, 97, 108, 115, 101] ∨ o = [110, 97, 109, 101] ∨ o = [110, 101, 103] ∨ o = [33] ∨ o = [43] ∨ o = [45] ∨ o = [42] ∨ o = [60] ∨ o = [60, 61] ∨ o = [62] ∨ o = [62, 61] ∨ o = [38] ∨ o = [124] ∨ o = [61, 62] ∨ o = [61] ∨ o = [33, 61] ∨ o = [63] ∨
    (o ≠ [110, 117, 109] ∧ o ≠ [116, 114, 117, 101] ∧ o ≠ [102, 97, 108, 115, 101] ∧ o ≠ [110, 97, 109, 101] ∧ o ≠ [110, 101, 103] ∧ o ≠ [33] ∧ o ≠ [43] ∧ o ≠ [45] ∧ o ≠ [42] ∧ o ≠ [60] ∧ o ≠ [60, 61] ∧ o ≠ [62] ∧ o ≠ [62, 61] ∧ o ≠ [38] ∧ o ≠ [124] ∧ o ≠ [61, 62] ∧ o ≠ [61] ∧ o ≠ [33, 61] ∧ o ≠ [63]) := by
  by_cases h0 : o = [110, 117, 109]
  · exact .inl h0
  refine .inr ?_
  by_cases h1 : o = [116, 114, 117, 101]
  · exact .inl h1
  refine .inr ?_
  by_cases h2 : o = [102, 97, 108, 115, 101]
  · exact .inl h2
  refine .inr ?_
  by_cases h3 : o = [110, 97, 109, 101]
  · exact .inl h3
  refine .inr ?_
  by_cases h4 : o = [110, 101, 103]
  · exact .inl h4
  refine .inr ?_
  by_cases h5 : o = [33]
  · exact .inl h5
  refine .inr ?_
  by_cases h6 : o = [43]
  · exact .inl h6
  refine .inr ?_
  by_cases h7 : o = [45]
  · exact .inl h7
  refine .inr ?_
  by_cases h8 : o = [42]
  · exact .inl h8
  refine .inr ?_
  by_cases h9 : o = [60]
  · exact .inl h9
  refine .inr ?_
  by_cases h10 : o = [60, 61]
  · exact .inl h10
  refine .inr ?_
  by_cases h11 : o = [62]
  · exact .inl h11
  refine .inr ?_
  by_cases h12 : o = [62, 61]
  · exact .inl h12
  refine .inr ?_
  by_cases h13 : o = [38]
  · exact .inl h13
  refine .inr ?_
  by_cases h14 : o = [124]
  · exact .inl h14
  refine .inr ?_
  by_cases h15 : o = [61, 62]
  · exact .inl h15
  refine .inr ?_
  by_cases h16 : o = [61]
  · exact .inl h16
  refine .inr ?_
  by_cases h17 : o = [33, 61]
  · exact .inl h17
  refine .inr ?_
  by_cases h18 : o = [63]
  · exact .inl h18
  refine .inr ?_
  exact ⟨h0, h1, h2, h3, h4, h5, h6, h7, h8, h9, h10, h11, h12, h13, h14, h15, h16, h17, h18⟩
end Go.Proofs.YtfahpmlckobpmaaGreatDoor.Pi
/-
  The kind of an expression: the program's (layer 10).
-/
namespace Go.Proofs.YtfahpmlckobpmaaGreatDoor.Pi
open Go

def resK : KD → AV
  | .ok b => .tup [.bool b, .nili]
  | .err p n => .tup [.bool false, atE p n]
def errK : KD → AV
  | .ok _ => .nili
  | .err p n => atE p n

section
variable {g : AH} (hok : g.ok)
include hok

theorem chkAt_c {pos n : Int} : C EE K_check_at [.int .i64 pos, .iface T_api_Errno (.int .i64 n)] g = some (atE pos n, g) := by
  rw [C_XS' E_check_at _ _ rfl]
  simp (maxDischargeDepth := 9) only [go_sem, ↓reduceIte, reduceCtorEq, Nat.reduceEqDiff, Int.reduceLE, Int.reduceLT, Int.reduceEq, Int.reduceNeg, Int.reduceAdd, Int.reduceSub, Nat.reduceAdd, Nat.reduceLeDiff, argFr, hok, atE]

theorem find1_c (s : Slt) (nm : List Nat) : C EE K_check_find_1 [.agg (encS s), .ref [.str nm]] g = some (.bool (decide (s.name = nm)), g) := by
  rw [C_XS' E_check_find_1 _ _ rfl]
  simp (maxDischargeDepth := 9) only [go_sem, ↓reduceIte, reduceCtorEq, Nat.reduceEqDiff, Int.reduceLE, Int.reduceLT, Int.reduceEq, Int.reduceNeg, Int.reduceAdd, Int.reduceSub, Nat.reduceAdd, Nat.reduceLeDiff, argFr, hok, encS, strOp]

theorem idxF_loop {l : List Slt} {nm : List Nat} (tok : Tok) (hl : l.length ≤ 100000) : ∀ (d i : Nat), l.length - i ≤ d → i ≤ l.length →
    ∃ e fr, LP EE L_slices_IndexFunc_check_Slot_check_Slot_0 [0, 1, 7, 8] [(0, .vs (encSs l) tok), (1, .fn K_check_find_1 [] [.ref [.str nm]]), (7, .int .i64 (l.length : Int)), (8, .int .i64 (i : Int))] g = some (e, fr, g) ∧
      ((e = .exit 0 ∧ findS (l.drop i) nm i = -1) ∨ (e = .ret ∧ fget fr 4 = .int .i64 (findS (l.drop i) nm i))) := by
  intro d
  induction d with
  | zero =>
    intro i hd hi
    have hlt : ¬ ((i : Int) < l.length) := by omega
    exact ⟨_, lp_mk (by rw [L_slices_IndexFunc_check_Slot_check_Slot_0_eq]; simp (maxDischargeDepth := 9) only [go_sem, ↓reduceIte, reduceCtorEq, Nat.reduceEqDiff, Int.reduceLE, Int.reduceLT, Int.reduceEq, Int.reduceNeg, Int.reduceAdd, Int.reduceSub, Nat.reduceAdd, Nat.reduceLeDiff, hlt]; rfl) (.inl ⟨rfl, by rw [List.drop_of_length_le (by omega)]; rfl⟩)⟩
  | succ d ih =>
    intro i hd hi
    by_cases hlt' : i < l.length
    · have hlt : ((i : Int) < l.length) := by omega
      have h0 : (0 : Int) ≤ i := by omega
      have hw : IntKind.i64.wrap ((i : Int) + 1) = ((i + 1 : Nat) : Int) := by rw [w64s] <;> omega
      have hg := encSs_get hlt'
      have h1 := find1_c (g := g) hok l[i] nm
      rw [List.drop_eq_getElem_cons hlt', findS]
      simp only [encS] at hg h1
      by_cases hn : l[i].name = nm
      · have hdn := decide_eq_true hn
        exact ⟨_, lp_mk (by rw [L_slices_IndexFunc_check_Slot_check_Slot_0_eq]; simp (maxDischargeDepth := 9) only [go_sem, ↓reduceIte, reduceCtorEq, Nat.reduceEqDiff, Int.reduceLE, Int.reduceLT, Int.reduceEq, Int.reduceNeg, Int.reduceAdd, Int.reduceSub, Nat.reduceAdd, Nat.reduceLeDiff, hlt, h0, Int.toNat_natCast, hg, h1, hdn]; rfl) (.inr ⟨rfl, by simp only [hn, if_true]; rfl⟩)⟩
      · obtain ⟨e, fr, q1, q2⟩ := ih (i + 1) (by omega) (by omega)
        refine ⟨e, fr, ?_, by simpa only [hn, if_false] using q2⟩
        rw [L_slices_IndexFunc_check_Slot_check_Slot_0_eq]
        simp (maxDischargeDepth := 9) only [go_sem, ↓reduceIte, reduceCtorEq, Nat.reduceEqDiff, Int.reduceLE, Int.reduceLT, Int.reduceEq, Int.reduceNeg, Int.reduceAdd, Int.reduceSub, Nat.reduceAdd, Nat.reduceLeDiff, hlt, h0, Int.toNat_natCast, hg, h1, decide_eq_false hn, hw, q1]
    · have hlt : ¬ ((i : Int) < l.length) := by omega
      exact ⟨_, lp_mk (by rw [L_slices_IndexFunc_check_Slot_check_Slot_0_eq]; simp (maxDischargeDepth := 9) only [go_sem, ↓reduceIte, reduceCtorEq, Nat.reduceEqDiff, Int.reduceLE, Int.reduceLT, Int.reduceEq, Int.reduceNeg, Int.reduceAdd, Int.reduceSub, Nat.reduceAdd, Nat.reduceLeDiff, hlt]; rfl) (.inl ⟨rfl, by rw [List.drop_of_length_le (by omega)]; rfl⟩)⟩

theorem find_c {l : List Slt} {nm : List Nat} (tok : Tok) (hl : l.length ≤ 100000) : C EE K_check_find [.vs (encSs l) tok, .str nm] g = some (.int .i64 (findS l nm 0), g) := by
  obtain ⟨e, fr, q1, q2⟩ := idxF_loop hok (nm := nm) tok hl l.length 0 (by omega) (by omega)
  have hI : C EE K_slices_IndexFunc_check_Slot_check_Slot [.vs (encSs l) tok, .fn K_check_find_1 [] [.ref [.str nm]]] g = some (.int .i64 (findS l nm 0), g) := by
    rw [C_XS' E_slices_IndexFunc_check_Slot_check_Slot _ _ rfl]
    simp only [List.drop_zero, Int.natCast_zero, Int.ofNat_zero] at q1 q2
    rcases q2 with ⟨rfl, h2⟩ | ⟨rfl, f4⟩
    · simp (maxDischargeDepth := 9) only [go_sem, ↓reduceIte, reduceCtorEq, Nat.reduceEqDiff, Int.reduceLE, Int.reduceLT, Int.reduceEq, Int.reduceNeg, Int.reduceAdd, Int.reduceSub, Nat.reduceAdd, Nat.reduceLeDiff, argFr, hok, AH.ext_nil, encSs_len, q1, h2]
    · simp (maxDischargeDepth := 9) only [go_sem, ↓reduceIte, reduceCtorEq, Nat.reduceEqDiff, Int.reduceLE, Int.reduceLT, Int.reduceEq, Int.reduceNeg, Int.reduceAdd, Int.reduceSub, Nat.reduceAdd, Nat.reduceLeDiff, argFr, hok, AH.ext_nil, encSs_len, q1, f4]
  rw [C_XS' E_check_find _ _ rfl]
  simp (maxDischargeDepth := 9) only [go_sem, ↓reduceIte, reduceCtorEq, Nat.reduceEqDiff, Int.reduceLE, Int.reduceLT, Int.reduceEq, Int.reduceNeg, Int.reduceAdd, Int.reduceSub, Nat.reduceAdd, Nat.reduceLeDiff, argFr, hok, AH.ext_nil, hI]
end

/-- what is shown of an expression -/
def KindC (l : List Slt) (tok : Tok) (x : Xp) : Prop := ∀ g : AH, g.ok → C EE K_check_Kind [.agg [.str x.op, .str x.nm, .int .i64 x.n, .vs (encEs x.kids) .shared, .int .i64 x.pos], .vs (encSs l) tok] g = some (resK (kS l x), g)

section
variable {l : List Slt} {tok : Tok} {g : AH} (hok : g.ok)
include hok

theorem must_c {x : Xp} (hx : KindC l tok x) (t : Bool) : C EE K_check_must [.agg [.str x.op, .str x.nm, .int .i64 x.n, .vs (encEs x.kids) .shared, .int .i64 x.pos], .vs (encSs l) tok, .bool t] g = some (errK (mustS (kS l x, x.pos) t), g) := by
  rw [C_XS' E_check_must _ _ rfl]
  have h1 := hx g hok
  cases hk : kS l x with
  | err p n =>
    rw [hk] at h1
    simp only [resK, atE] at h1
    simp (maxDischargeDepth := 9) only [go_sem, ↓reduceIte, reduceCtorEq, Nat.reduceEqDiff, Int.reduceLE, Int.reduceLT, Int.reduceEq, Int.reduceNeg, Int.reduceAdd, Int.reduceSub, Nat.reduceAdd, Nat.reduceLeDiff, argFr, hok, AH.ext_nil, h1, mustS, errK, atE]
  | ok b =>
    rw [hk] at h1
    simp only [resK] at h1
    cases b <;> cases t
    all_goals simp (maxDischargeDepth := 9) only [go_sem, ↓reduceIte, reduceCtorEq, Nat.reduceEqDiff, Int.reduceLE, Int.reduceLT, Int.reduceEq, Int.reduceNeg, Int.reduceAdd, Int.reduceSub, Nat.reduceAdd, Nat.reduceLeDiff, argFr, hok, AH.ext_nil, h1, mustS, errK, chkAt_c hok, bne_self_eq_false, atE]

theorem each_loop {kids : List Xp} (hk : ∀ k ∈ kids, KindC l tok k) (t : Bool) (hl : kids.length ≤ 100000) : ∀ (d i : Nat) (G : List (Option ABlk)), kids.length - i ≤ d → i ≤ kids.length →
    ∃ r, LP EE L_check_each_0 [1, 2, 11, 12, 13] [(1, .vs (encSs l) tok), (2, .bool t), (11, .vs (encEs kids) .shared), (12, .int .i64 (kids.length : Int)), (13, .int .i64 (i : Int))] (g.ext G []) = some r ∧
      ∃ G', r.2.2 = g.ext G' [] ∧ ((r.1 = .exit 0 ∧ eachS t (kSs l (kids.drop i)) = .ok t) ∨ (r.1 = .ret ∧ ∃ p n, eachS t (kSs l (kids.drop i)) = .err p n ∧ fget r.2.1 6 = atE p n)) := by
  generalize hN : g.len = N
  intro d
  induction d with
  | zero =>
    intro i G hd hi
    have hlt : ¬ ((i : Int) < kids.length) := by omega
    exact ⟨_, by rw [L_check_each_0_eq]; simp (maxDischargeDepth := 9) only [go_sem, ↓reduceIte, reduceCtorEq, Nat.reduceEqDiff, Int.reduceLE, Int.reduceLT, Int.reduceEq, Int.reduceNeg, Int.reduceAdd, Int.reduceSub, Nat.reduceAdd, Nat.reduceLeDiff, hlt]; rfl, G, rfl, .inl ⟨rfl, by rw [List.drop_of_length_le (by omega)]; rfl⟩⟩
  | succ d ih =>
    intro i G hd hi
    by_cases hlt' : i < kids.length
    · have hlt : ((i : Int) < kids.length) := by omega
      have h0 : (0 : Int) ≤ i := by omega
      have hw : IntKind.i64.wrap ((i : Int) + 1) = ((i + 1 : Nat) : Int) := by rw [w64s] <;> omega
      have hg := encEs_get hlt'
      rw [encE_eq] at hg
      have h1 := fun G => must_c (g := g.ext G []) (AH.ok_ext0 hok) (hk _ (List.getElem_mem hlt')) t
      rw [List.drop_eq_getElem_cons hlt', kSs, eachS]
      cases hm : mustS (kS l kids[i], kids[i].pos) t with
      | err p n =>
        rw [hm] at h1
        simp only [errK, atE] at h1
        exact ⟨_, by rw [L_check_each_0_eq]; simp (maxDischargeDepth := 9) only [go_sem, ↓reduceIte, reduceCtorEq, Nat.reduceEqDiff, Int.reduceLE, Int.reduceLT, Int.reduceEq, Int.reduceNeg, Int.reduceAdd, Int.reduceSub, Nat.reduceAdd, Nat.reduceLeDiff, hN, hok, hlt, h0, Int.toNat_natCast, hg, h1]; rfl, _, rfl, .inr ⟨rfl, p, n, rfl, rfl⟩⟩
      | ok b =>
        rw [hm] at h1
        simp only [errK] at h1
        obtain ⟨r, q1, q2⟩ := ih (i + 1) (G ++ [some (.rows 5 [[.str kids[i].op, .str kids[i].nm, .int .i64 kids[i].n, .vs (encEs kids[i].kids) .shared, .int .i64 kids[i].pos]])]) (by omega) (by omega)
        refine ⟨r, ?_, q2⟩
        rw [L_check_each_0_eq]
        simp (maxDischargeDepth := 9) only [go_sem, ↓reduceIte, reduceCtorEq, Nat.reduceEqDiff, Int.reduceLE, Int.reduceLT, Int.reduceEq, Int.reduceNeg, Int.reduceAdd, Int.reduceSub, Nat.reduceAdd, Nat.reduceLeDiff, hN, hok, hlt, h0, Int.toNat_natCast, hg, h1, hw, q1]
    · have hlt : ¬ ((i : Int) < kids.length) := by omega
      exact ⟨_, by rw [L_check_each_0_eq]; simp (maxDischargeDepth := 9) only [go_sem, ↓reduceIte, reduceCtorEq, Nat.reduceEqDiff, Int.reduceLE, Int.reduceLT, Int.reduceEq, Int.reduceNeg, Int.reduceAdd, Int.reduceSub, Nat.reduceAdd, Nat.reduceLeDiff, hlt]; rfl, G, rfl, .inl ⟨rfl, by rw [List.drop_of_length_le (by omega)]; rfl⟩⟩

theorem each_c {op nm : List Nat} {n pos : Int} {kids : List Xp} (hk : ∀ k ∈ kids, KindC l tok k) (t : Bool) (hl : kids.length ≤ 100000) :
    C EE K_check_each [.agg [.str op, .str nm, .int .i64 n, .vs (encEs kids) .shared, .int .i64 pos], .vs (encSs l) tok, .bool t] g = some (errK (eachS t (kSs l kids)), g) := by
  obtain ⟨⟨e, fr, h'⟩, q1, G', rfl, q2⟩ := each_loop hok hk t hl kids.length 0 [] (by omega) (by omega)
  simp only [List.drop_zero, Int.natCast_zero, Int.ofNat_zero] at q1 q2
  rw [C_XS' E_check_each _ _ rfl]
  rcases q2 with ⟨rfl, h2⟩ | ⟨rfl, p, n, h2, f6⟩
  · simp (maxDischargeDepth := 9) only [go_sem, ↓reduceIte, reduceCtorEq, Nat.reduceEqDiff, Int.reduceLE, Int.reduceLT, Int.reduceEq, Int.reduceNeg, Int.reduceAdd, Int.reduceSub, Nat.reduceAdd, Nat.reduceLeDiff, argFr, hok, encEs_len, q1, h2, errK]
  · unfold atE at f6
    simp (maxDischargeDepth := 9) only [go_sem, ↓reduceIte, reduceCtorEq, Nat.reduceEqDiff, Int.reduceLE, Int.reduceLT, Int.reduceEq, Int.reduceNeg, Int.reduceAdd, Int.reduceSub, Nat.reduceAdd, Nat.reduceLeDiff, argFr, hok, encEs_len, q1, h2, f6, errK, atE]

theorem alike_c {x y : Xp} (hx : KindC l tok x) (hy : KindC l tok y) : ∃ b, C EE K_check_alike [.agg [.str x.op, .str x.nm, .int .i64 x.n, .vs (encEs x.kids) .shared, .int .i64 x.pos], .agg [.str y.op, .str y.nm, .int .i64 y.n, .vs (encEs y.kids) .shared, .int .i64 y.pos], .vs (encSs l) tok] g =
    some (.tup [.bool b, errK (alikeS (kS l x, x.pos) (kS l y, y.pos))], g) ∧ ∀ z, alikeS (kS l x, x.pos) (kS l y, y.pos) = .ok z → b = z := by
  have h1 := hx g hok
  cases hk : kS l x with
  | err p n =>
    rw [hk] at h1
    simp only [resK, atE] at h1
    refine ⟨false, ?_, fun z hz => by simp only [alikeS] at hz; cases hz⟩
    rw [C_XS' E_check_alike _ _ rfl]
    simp (maxDischargeDepth := 9) only [go_sem, ↓reduceIte, reduceCtorEq, Nat.reduceEqDiff, Int.reduceLE, Int.reduceLT, Int.reduceEq, Int.reduceNeg, Int.reduceAdd, Int.reduceSub, Nat.reduceAdd, Nat.reduceLeDiff, argFr, hok, AH.ext_nil, h1, alikeS, errK, atE]
  | ok b =>
    rw [hk] at h1
    simp only [resK] at h1
    have h2 := must_c hok hy b
    refine ⟨b, ?_, fun z hz => ?_⟩
    · rw [C_XS' E_check_alike _ _ rfl]
      cases hm : mustS (kS l y, y.pos) b with
      | err p n =>
        rw [hm] at h2
        simp only [errK, atE] at h2
        simp (maxDischargeDepth := 9) only [go_sem, ↓reduceIte, reduceCtorEq, Nat.reduceEqDiff, Int.reduceLE, Int.reduceLT, Int.reduceEq, Int.reduceNeg, Int.reduceAdd, Int.reduceSub, Nat.reduceAdd, Nat.reduceLeDiff, argFr, hok, AH.ext_nil, h1, h2, alikeS, hm, errK, atE]
      | ok z =>
        rw [hm] at h2
        simp only [errK] at h2
        simp (maxDischargeDepth := 9) only [go_sem, ↓reduceIte, reduceCtorEq, Nat.reduceEqDiff, Int.reduceLE, Int.reduceLT, Int.reduceEq, Int.reduceNeg, Int.reduceAdd, Int.reduceSub, Nat.reduceAdd, Nat.reduceLeDiff, argFr, hok, AH.ext_nil, h1, h2, alikeS, hm, errK]
    · simp only [alikeS, mustS] at hz
      cases hq : kS l y with
      | err p n => rw [hq] at hz; cases hz
      | ok c =>
        rw [hq] at hz
        simp only at hz
        split at hz
        · simpa using hz
        · cases hz
end
end Go.Proofs.YtfahpmlckobpmaaGreatDoor.Pi
/-
  The kind of an expression: the program's, whole (layer 10).
-/
namespace Go.Proofs.YtfahpmlckobpmaaGreatDoor.Pi
open Go

section
variable {l : List Slt} {tok : Tok} {g : AH} (hok : g.ok)

/-- how many kids an operation has -/
def wantN (o : List Nat) : Nat :=
  if o = [110, 117, 109] ∨ o = [116, 114, 117, 101] ∨ o = [102, 97, 108, 115, 101] ∨ o = [110, 97, 109, 101] then 0 else if o = [110, 101, 103] ∨ o = [33] then 1 else if o = [63] then 3 else 2

theorem kOp_want {l : List Slt} {op nm : List Nat} {pos : Int} {rs : List (KD × Int)} (h : rs.length ≠ wantN op) : kOp l op nm pos rs = .err pos 1 := by
  unfold wantN at h
  rcases op_cases op with e | e | e | e | e | e | e | e | e | e | e | e | e | e | e | e | e | e | e | ⟨h1, h2, h3, h4, h5, h6, h7, h8, h9, i1, i2, i3, i4, i5, i6, i7, i8, i9, j1⟩
  all_goals try subst e
  all_goals try (simp only [List.cons.injEq, Nat.reduceEqDiff, false_and, and_false, reduceCtorEq, or_self, or_true, true_or, false_or, or_false, if_true, if_false, true_and, and_true, and_self, ne_eq] at h)
  all_goals try (simp [kOp, h]; done)
  · match rs, h with
    | [], _ | [_], _ | _ :: _ :: _ :: _, _ => simp [kOp]
    | [_, _], h => simp at h
  · match rs, h with
    | [], _ | [_], _ | _ :: _ :: _ :: _, _ => simp [kOp]
    | [_, _], h => simp at h
  · match rs, h with
    | [], _ | [_], _ | [_, _], _ | _ :: _ :: _ :: _ :: _, _ => simp [kOp]
    | [_, _, _], h => simp at h
  · simp [kOp, *]

include hok
set_option maxHeartbeats 4000000 in
theorem chkKind_c (hl : l.length ≤ 100000) {x : Xp} (hk : ∀ k ∈ x.kids, KindC l tok k) (hw : x.kids.length = wantN x.op) :
    ∃ b, C EE K_check_kind [.agg [.str x.op, .str x.nm, .int .i64 x.n, .vs (encEs x.kids) .shared, .int .i64 x.pos], .vs (encSs l) tok] g = some (.tup [.bool b, errK (kS l x)], g) ∧ ∀ z, kS l x = .ok z → b = z := by
  rw [kS_eq]
  have kne : ∀ k : List Xp, (kSs l k).length = k.length := kSs_len l
  rcases op_cases x.op with e | e | e | e | e | e | e | e | e | e | e | e | e | e | e | e | e | e | e | ⟨h1, h2, h3, h4, h5, h6, h7, h8, h9, i1, i2, i3, i4, i5, i6, i7, i8, i9, j1⟩
  · rw [e] at hw ⊢
    have hrs : (kSs l x.kids).length = 0 := by rw [kSs_len, hw]; rfl
    refine ⟨false, ?_, fun z hz => by simpa [kOp, hrs] using hz⟩
    rw [C_XS' E_check_kind _ _ rfl]
    simp (maxDischargeDepth := 9) only [go_sem, ↓reduceIte, reduceCtorEq, Nat.reduceEqDiff, Int.reduceLE, Int.reduceLT, Int.reduceEq, Int.reduceNeg, Int.reduceAdd, Int.reduceSub, Nat.reduceAdd, Nat.reduceLeDiff, argFr, hok, AH.ext_nil, strOp, List.cons.injEq, false_and, and_false, or_self, or_false, false_or, true_or, or_true, kOp, hrs, errK]
  · rw [e] at hw ⊢
    have hrs : (kSs l x.kids).length = 0 := by rw [kSs_len, hw]; rfl
    refine ⟨true, ?_, fun z hz => by simpa [kOp, hrs] using hz⟩
    rw [C_XS' E_check_kind _ _ rfl]
    simp (maxDischargeDepth := 9) only [go_sem, ↓reduceIte, reduceCtorEq, Nat.reduceEqDiff, Int.reduceLE, Int.reduceLT, Int.reduceEq, Int.reduceNeg, Int.reduceAdd, Int.reduceSub, Nat.reduceAdd, Nat.reduceLeDiff, argFr, hok, AH.ext_nil, strOp, List.cons.injEq, false_and, and_false, or_self, or_false, false_or, true_or, or_true, kOp, hrs, errK]
  · rw [e] at hw ⊢
    have hrs : (kSs l x.kids).length = 0 := by rw [kSs_len, hw]; rfl
    refine ⟨true, ?_, fun z hz => by simpa [kOp, hrs] using hz⟩
    rw [C_XS' E_check_kind _ _ rfl]
    simp (maxDischargeDepth := 9) only [go_sem, ↓reduceIte, reduceCtorEq, Nat.reduceEqDiff, Int.reduceLE, Int.reduceLT, Int.reduceEq, Int.reduceNeg, Int.reduceAdd, Int.reduceSub, Nat.reduceAdd, Nat.reduceLeDiff, argFr, hok, AH.ext_nil, strOp, List.cons.injEq, false_and, and_false, or_self, or_false, false_or, true_or, or_true, kOp, hrs, errK]
  · rw [e] at hw ⊢
    have hrs : (kSs l x.kids).length = 0 := by rw [kSs_len, hw]; rfl
    have hF := find_c (g := g) (l := l) (nm := x.nm) hok tok hl
    rcases findS_cases l x.nm 0 with hf | ⟨j, hj, hf⟩
    · rw [hf] at hF
      have hneg : ((-1 : Int) < 0) := by omega
      refine ⟨false, ?_, fun z hz => by simp [kOp, hrs, hf] at hz⟩
      rw [C_XS' E_check_kind _ _ rfl]
      simp (maxDischargeDepth := 9) only [go_sem, ↓reduceIte, reduceCtorEq, Nat.reduceEqDiff, Int.reduceLE, Int.reduceLT, Int.reduceEq, Int.reduceNeg, Int.reduceAdd, Int.reduceSub, Nat.reduceAdd, Nat.reduceLeDiff, argFr, hok, AH.ext_nil, strOp, List.cons.injEq, false_and, and_false, or_self, or_false, false_or, true_or, or_true, kOp, hrs, errK, hF, hf, hneg, chkAt_c hok, atE]
    · rw [Nat.zero_add] at hf
      rw [hf] at hF
      have hneg : ¬ ((j : Int) < 0) := by omega
      have h0 : (0 : Int) ≤ j := by omega
      have hg := encSs_get hj
      simp only [encS] at hg
      have hk' : kOp l [110, 97, 109, 101] x.nm x.pos (kSs l x.kids) = .ok l[j].bool := by simp [kOp, hrs, hf, hneg, get_some hj]
      refine ⟨l[j].bool, ?_, fun z hz => by rw [hk'] at hz; simpa using hz⟩
      rw [C_XS' E_check_kind _ _ rfl, hk']
      simp (maxDischargeDepth := 9) only [go_sem, ↓reduceIte, reduceCtorEq, Nat.reduceEqDiff, Int.reduceLE, Int.reduceLT, Int.reduceEq, Int.reduceNeg, Int.reduceAdd, Int.reduceSub, Nat.reduceAdd, Nat.reduceLeDiff, argFr, hok, AH.ext_nil, strOp, List.cons.injEq, false_and, and_false, or_self, or_false, false_or, true_or, or_true, errK, hF, hneg, h0, Int.toNat_natCast, hg]
  · rw [e] at hw ⊢
    have hrs : (kSs l x.kids).length = 1 := by rw [kSs_len, hw]; rfl
    have hn : x.kids.length ≤ 100000 := by rw [hw]; decide
    have hE := each_c (op := x.op) (nm := x.nm) (n := x.n) (pos := x.pos) hok hk false hn
    rw [e] at hE
    refine ⟨false, ?_, fun z hz => (by
      simp [kOp, hrs] at hz
      cases hq : eachS false (kSs l x.kids) <;> rw [hq] at hz <;> simp [KD.to] at hz
      exact hz.symm)⟩
    rw [C_XS' E_check_kind _ _ rfl]
    cases hq : eachS false (kSs l x.kids) with
    | ok z =>
      rw [hq] at hE
      simp only [errK] at hE
      simp (maxDischargeDepth := 9) only [go_sem, ↓reduceIte, reduceCtorEq, Nat.reduceEqDiff, Int.reduceLE, Int.reduceLT, Int.reduceEq, Int.reduceNeg, Int.reduceAdd, Int.reduceSub, Nat.reduceAdd, Nat.reduceLeDiff, argFr, hok, AH.ext_nil, strOp, List.cons.injEq, false_and, and_false, or_self, or_false, false_or, true_or, or_true, kOp, hrs, errK, hE, hq, KD.to]
    | err p n =>
      rw [hq] at hE
      simp only [errK, atE] at hE
      simp (maxDischargeDepth := 9) only [go_sem, ↓reduceIte, reduceCtorEq, Nat.reduceEqDiff, Int.reduceLE, Int.reduceLT, Int.reduceEq, Int.reduceNeg, Int.reduceAdd, Int.reduceSub, Nat.reduceAdd, Nat.reduceLeDiff, argFr, hok, AH.ext_nil, strOp, List.cons.injEq, false_and, and_false, or_self, or_false, false_or, true_or, or_true, kOp, hrs, errK, hE, hq, KD.to, atE]
  · rw [e] at hw ⊢
    have hrs : (kSs l x.kids).length = 1 := by rw [kSs_len, hw]; rfl
    have hn : x.kids.length ≤ 100000 := by rw [hw]; decide
    have hE := each_c (op := x.op) (nm := x.nm) (n := x.n) (pos := x.pos) hok hk true hn
    rw [e] at hE
    refine ⟨true, ?_, fun z hz => (by
      simp [kOp, hrs] at hz
      cases hq : eachS true (kSs l x.kids) <;> rw [hq] at hz <;> simp [KD.to] at hz
      exact hz.symm)⟩
    rw [C_XS' E_check_kind _ _ rfl]
    cases hq : eachS true (kSs l x.kids) with
    | ok z =>
      rw [hq] at hE
      simp only [errK] at hE
      simp (maxDischargeDepth := 9) only [go_sem, ↓reduceIte, reduceCtorEq, Nat.reduceEqDiff, Int.reduceLE, Int.reduceLT, Int.reduceEq, Int.reduceNeg, Int.reduceAdd, Int.reduceSub, Nat.reduceAdd, Nat.reduceLeDiff, argFr, hok, AH.ext_nil, strOp, List.cons.injEq, false_and, and_false, or_self, or_false, false_or, true_or, or_true, kOp, hrs, errK, hE, hq, KD.to]
    | err p n =>
      rw [hq] at hE
      simp only [errK, atE] at hE
      simp (maxDischargeDepth := 9) only [go_sem, ↓reduceIte, reduceCtorEq, Nat.reduceEqDiff, Int.reduceLE, Int.reduceLT, Int.reduceEq, Int.reduceNeg, Int.reduceAdd, Int.reduceSub, Nat.reduceAdd, Nat.reduceLeDiff, argFr, hok, AH.ext_nil, strOp, List.cons.injEq, false_and, and_false, or_self, or_false, false_or, true_or, or_true, kOp, hrs, errK, hE, hq, KD.to, atE]
  · rw [e] at hw ⊢
    have hrs : (kSs l x.kids).length = 2 := by rw [kSs_len, hw]; rfl
    have hn : x.kids.length ≤ 100000 := by rw [hw]; decide
    have hE := each_c (op := x.op) (nm := x.nm) (n := x.n) (pos := x.pos) hok hk false hn
    rw [e] at hE
    refine ⟨false, ?_, fun z hz => (by
      simp [kOp, hrs] at hz
      cases hq : eachS false (kSs l x.kids) <;> rw [hq] at hz <;> simp [KD.to] at hz
      exact hz.symm)⟩
    rw [C_XS' E_check_kind _ _ rfl]
    cases hq : eachS false (kSs l x.kids) with
    | ok z =>
      rw [hq] at hE
      simp only [errK] at hE
      simp (maxDischargeDepth := 9) only [go_sem, ↓reduceIte, reduceCtorEq, Nat.reduceEqDiff, Int.reduceLE, Int.reduceLT, Int.reduceEq, Int.reduceNeg, Int.reduceAdd, Int.reduceSub, Nat.reduceAdd, Nat.reduceLeDiff, argFr, hok, AH.ext_nil, strOp, List.cons.injEq, false_and, and_false, or_self, or_false, false_or, true_or, or_true, kOp, hrs, errK, hE, hq, KD.to]
    | err p n =>
      rw [hq] at hE
      simp only [errK, atE] at hE
      simp (maxDischargeDepth := 9) only [go_sem, ↓reduceIte, reduceCtorEq, Nat.reduceEqDiff, Int.reduceLE, Int.reduceLT, Int.reduceEq, Int.reduceNeg, Int.reduceAdd, Int.reduceSub, Nat.reduceAdd, Nat.reduceLeDiff, argFr, hok, AH.ext_nil, strOp, List.cons.injEq, false_and, and_false, or_self, or_false, false_or, true_or, or_true, kOp, hrs, errK, hE, hq, KD.to, atE]
  · rw [e] at hw ⊢
    have hrs : (kSs l x.kids).length = 2 := by rw [kSs_len, hw]; rfl
    have hn : x.kids.length ≤ 100000 := by rw [hw]; decide
    have hE := each_c (op := x.op) (nm := x.nm) (n := x.n) (pos := x.pos) hok hk false hn
    rw [e] at hE
    refine ⟨false, ?_, fun z hz => (by
      simp [kOp, hrs] at hz
      cases hq : eachS false (kSs l x.kids) <;> rw [hq] at hz <;> simp [KD.to] at hz
      exact hz.symm)⟩
    rw [C_XS' E_check_kind _ _ rfl]
    cases hq : eachS false (kSs l x.kids) with
    | ok z =>
      rw [hq] at hE
      simp only [errK] at hE
      simp (maxDischargeDepth := 9) only [go_sem, ↓reduceIte, reduceCtorEq, Nat.reduceEqDiff, Int.reduceLE, Int.reduceLT, Int.reduceEq, Int.reduceNeg, Int.reduceAdd, Int.reduceSub, Nat.reduceAdd, Nat.reduceLeDiff, argFr, hok, AH.ext_nil, strOp, List.cons.injEq, false_and, and_false, or_self, or_false, false_or, true_or, or_true, kOp, hrs, errK, hE, hq, KD.to]
    | err p n =>
      rw [hq] at hE
      simp only [errK, atE] at hE
      simp (maxDischargeDepth := 9) only [go_sem, ↓reduceIte, reduceCtorEq, Nat.reduceEqDiff, Int.reduceLE, Int.reduceLT, Int.reduceEq, Int.reduceNeg, Int.reduceAdd, Int.reduceSub, Nat.reduceAdd, Nat.reduceLeDiff, argFr, hok, AH.ext_nil, strOp, List.cons.injEq, false_and, and_false, or_self, or_false, false_or, true_or, or_true, kOp, hrs, errK, hE, hq, KD.to, atE]
  · rw [e] at hw ⊢
    have hrs : (kSs l x.kids).length = 2 := by rw [kSs_len, hw]; rfl
    have hn : x.kids.length ≤ 100000 := by rw [hw]; decide
    have hE := each_c (op := x.op) (nm := x.nm) (n := x.n) (pos := x.pos) hok hk false hn
    rw [e] at hE
    refine ⟨false, ?_, fun z hz => (by
      simp [kOp, hrs] at hz
      cases hq : eachS false (kSs l x.kids) <;> rw [hq] at hz <;> simp [KD.to] at hz
      exact hz.symm)⟩
    rw [C_XS' E_check_kind _ _ rfl]
    cases hq : eachS false (kSs l x.kids) with
    | ok z =>
      rw [hq] at hE
      simp only [errK] at hE
      simp (maxDischargeDepth := 9) only [go_sem, ↓reduceIte, reduceCtorEq, Nat.reduceEqDiff, Int.reduceLE, Int.reduceLT, Int.reduceEq, Int.reduceNeg, Int.reduceAdd, Int.reduceSub, Nat.reduceAdd, Nat.reduceLeDiff, argFr, hok, AH.ext_nil, strOp, List.cons.injEq, false_and, and_false, or_self, or_false, false_or, true_or, or_true, kOp, hrs, errK, hE, hq, KD.to]
    | err p n =>
      rw [hq] at hE
      simp only [errK, atE] at hE
      simp (maxDischargeDepth := 9) only [go_sem, ↓reduceIte, reduceCtorEq, Nat.reduceEqDiff, Int.reduceLE, Int.reduceLT, Int.reduceEq, Int.reduceNeg, Int.reduceAdd, Int.reduceSub, Nat.reduceAdd, Nat.reduceLeDiff, argFr, hok, AH.ext_nil, strOp, List.cons.injEq, false_and, and_false, or_self, or_false, false_or, true_or, or_true, kOp, hrs, errK, hE, hq, KD.to, atE]
  · rw [e] at hw ⊢
    have hrs : (kSs l x.kids).length = 2 := by rw [kSs_len, hw]; rfl
    have hn : x.kids.length ≤ 100000 := by rw [hw]; decide
    have hE := each_c (op := x.op) (nm := x.nm) (n := x.n) (pos := x.pos) hok hk false hn
    rw [e] at hE
    refine ⟨true, ?_, fun z hz => (by
      simp [kOp, hrs] at hz
      cases hq : eachS false (kSs l x.kids) <;> rw [hq] at hz <;> simp [KD.to] at hz
      exact hz.symm)⟩
    rw [C_XS' E_check_kind _ _ rfl]
    cases hq : eachS false (kSs l x.kids) with
    | ok z =>
      rw [hq] at hE
      simp only [errK] at hE
      simp (maxDischargeDepth := 9) only [go_sem, ↓reduceIte, reduceCtorEq, Nat.reduceEqDiff, Int.reduceLE, Int.reduceLT, Int.reduceEq, Int.reduceNeg, Int.reduceAdd, Int.reduceSub, Nat.reduceAdd, Nat.reduceLeDiff, argFr, hok, AH.ext_nil, strOp, List.cons.injEq, false_and, and_false, or_self, or_false, false_or, true_or, or_true, kOp, hrs, errK, hE, hq, KD.to]
    | err p n =>
      rw [hq] at hE
      simp only [errK, atE] at hE
      simp (maxDischargeDepth := 9) only [go_sem, ↓reduceIte, reduceCtorEq, Nat.reduceEqDiff, Int.reduceLE, Int.reduceLT, Int.reduceEq, Int.reduceNeg, Int.reduceAdd, Int.reduceSub, Nat.reduceAdd, Nat.reduceLeDiff, argFr, hok, AH.ext_nil, strOp, List.cons.injEq, false_and, and_false, or_self, or_false, false_or, true_or, or_true, kOp, hrs, errK, hE, hq, KD.to, atE]
  · rw [e] at hw ⊢
    have hrs : (kSs l x.kids).length = 2 := by rw [kSs_len, hw]; rfl
    have hn : x.kids.length ≤ 100000 := by rw [hw]; decide
    have hE := each_c (op := x.op) (nm := x.nm) (n := x.n) (pos := x.pos) hok hk false hn
    rw [e] at hE
    refine ⟨true, ?_, fun z hz => (by
      simp [kOp, hrs] at hz
      cases hq : eachS false (kSs l x.kids) <;> rw [hq] at hz <;> simp [KD.to] at hz
      exact hz.symm)⟩
    rw [C_XS' E_check_kind _ _ rfl]
    cases hq : eachS false (kSs l x.kids) with
    | ok z =>
      rw [hq] at hE
      simp only [errK] at hE
      simp (maxDischargeDepth := 9) only [go_sem, ↓reduceIte, reduceCtorEq, Nat.reduceEqDiff, Int.reduceLE, Int.reduceLT, Int.reduceEq, Int.reduceNeg, Int.reduceAdd, Int.reduceSub, Nat.reduceAdd, Nat.reduceLeDiff, argFr, hok, AH.ext_nil, strOp, List.cons.injEq, false_and, and_false, or_self, or_false, false_or, true_or, or_true, kOp, hrs, errK, hE, hq, KD.to]
    | err p n =>
      rw [hq] at hE
      simp only [errK, atE] at hE
      simp (maxDischargeDepth := 9) only [go_sem, ↓reduceIte, reduceCtorEq, Nat.reduceEqDiff, Int.reduceLE, Int.reduceLT, Int.reduceEq, Int.reduceNeg, Int.reduceAdd, Int.reduceSub, Nat.reduceAdd, Nat.reduceLeDiff, argFr, hok, AH.ext_nil, strOp, List.cons.injEq, false_and, and_false, or_self, or_false, false_or, true_or, or_true, kOp, hrs, errK, hE, hq, KD.to, atE]
  · rw [e] at hw ⊢
    have hrs : (kSs l x.kids).length = 2 := by rw [kSs_len, hw]; rfl
    have hn : x.kids.length ≤ 100000 := by rw [hw]; decide
    have hE := each_c (op := x.op) (nm := x.nm) (n := x.n) (pos := x.pos) hok hk false hn
    rw [e] at hE
    refine ⟨true, ?_, fun z hz => (by
      simp [kOp, hrs] at hz
      cases hq : eachS false (kSs l x.kids) <;> rw [hq] at hz <;> simp [KD.to] at hz
      exact hz.symm)⟩
    rw [C_XS' E_check_kind _ _ rfl]
    cases hq : eachS false (kSs l x.kids) with
    | ok z =>
      rw [hq] at hE
      simp only [errK] at hE
      simp (maxDischargeDepth := 9) only [go_sem, ↓reduceIte, reduceCtorEq, Nat.reduceEqDiff, Int.reduceLE, Int.reduceLT, Int.reduceEq, Int.reduceNeg, Int.reduceAdd, Int.reduceSub, Nat.reduceAdd, Nat.reduceLeDiff, argFr, hok, AH.ext_nil, strOp, List.cons.injEq, false_and, and_false, or_self, or_false, false_or, true_or, or_true, kOp, hrs, errK, hE, hq, KD.to]
    | err p n =>
      rw [hq] at hE
      simp only [errK, atE] at hE
      simp (maxDischargeDepth := 9) only [go_sem, ↓reduceIte, reduceCtorEq, Nat.reduceEqDiff, Int.reduceLE, Int.reduceLT, Int.reduceEq, Int.reduceNeg, Int.reduceAdd, Int.reduceSub, Nat.reduceAdd, Nat.reduceLeDiff, argFr, hok, AH.ext_nil, strOp, List.cons.injEq, false_and, and_false, or_self, or_false, false_or, true_or, or_true, kOp, hrs, errK, hE, hq, KD.to, atE]
  · rw [e] at hw ⊢
    have hrs : (kSs l x.kids).length = 2 := by rw [kSs_len, hw]; rfl
    have hn : x.kids.length ≤ 100000 := by rw [hw]; decide
    have hE := each_c (op := x.op) (nm := x.nm) (n := x.n) (pos := x.pos) hok hk false hn
    rw [e] at hE
    refine ⟨true, ?_, fun z hz => (by
      simp [kOp, hrs] at hz
      cases hq : eachS false (kSs l x.kids) <;> rw [hq] at hz <;> simp [KD.to] at hz
      exact hz.symm)⟩
    rw [C_XS' E_check_kind _ _ rfl]
    cases hq : eachS false (kSs l x.kids) with
    | ok z =>
      rw [hq] at hE
      simp only [errK] at hE
      simp (maxDischargeDepth := 9) only [go_sem, ↓reduceIte, reduceCtorEq, Nat.reduceEqDiff, Int.reduceLE, Int.reduceLT, Int.reduceEq, Int.reduceNeg, Int.reduceAdd, Int.reduceSub, Nat.reduceAdd, Nat.reduceLeDiff, argFr, hok, AH.ext_nil, strOp, List.cons.injEq, false_and, and_false, or_self, or_false, false_or, true_or, or_true, kOp, hrs, errK, hE, hq, KD.to]
    | err p n =>
      rw [hq] at hE
      simp only [errK, atE] at hE
      simp (maxDischargeDepth := 9) only [go_sem, ↓reduceIte, reduceCtorEq, Nat.reduceEqDiff, Int.reduceLE, Int.reduceLT, Int.reduceEq, Int.reduceNeg, Int.reduceAdd, Int.reduceSub, Nat.reduceAdd, Nat.reduceLeDiff, argFr, hok, AH.ext_nil, strOp, List.cons.injEq, false_and, and_false, or_self, or_false, false_or, true_or, or_true, kOp, hrs, errK, hE, hq, KD.to, atE]
  · rw [e] at hw ⊢
    have hrs : (kSs l x.kids).length = 2 := by rw [kSs_len, hw]; rfl
    have hn : x.kids.length ≤ 100000 := by rw [hw]; decide
    have hE := each_c (op := x.op) (nm := x.nm) (n := x.n) (pos := x.pos) hok hk true hn
    rw [e] at hE
    refine ⟨true, ?_, fun z hz => (by
      simp [kOp, hrs] at hz
      cases hq : eachS true (kSs l x.kids) <;> rw [hq] at hz <;> simp [KD.to] at hz
      exact hz.symm)⟩
    rw [C_XS' E_check_kind _ _ rfl]
    cases hq : eachS true (kSs l x.kids) with
    | ok z =>
      rw [hq] at hE
      simp only [errK] at hE
      simp (maxDischargeDepth := 9) only [go_sem, ↓reduceIte, reduceCtorEq, Nat.reduceEqDiff, Int.reduceLE, Int.reduceLT, Int.reduceEq, Int.reduceNeg, Int.reduceAdd, Int.reduceSub, Nat.reduceAdd, Nat.reduceLeDiff, argFr, hok, AH.ext_nil, strOp, List.cons.injEq, false_and, and_false, or_self, or_false, false_or, true_or, or_true, kOp, hrs, errK, hE, hq, KD.to]
    | err p n =>
      rw [hq] at hE
      simp only [errK, atE] at hE
      simp (maxDischargeDepth := 9) only [go_sem, ↓reduceIte, reduceCtorEq, Nat.reduceEqDiff, Int.reduceLE, Int.reduceLT, Int.reduceEq, Int.reduceNeg, Int.reduceAdd, Int.reduceSub, Nat.reduceAdd, Nat.reduceLeDiff, argFr, hok, AH.ext_nil, strOp, List.cons.injEq, false_and, and_false, or_self, or_false, false_or, true_or, or_true, kOp, hrs, errK, hE, hq, KD.to, atE]
  · rw [e] at hw ⊢
    have hrs : (kSs l x.kids).length = 2 := by rw [kSs_len, hw]; rfl
    have hn : x.kids.length ≤ 100000 := by rw [hw]; decide
    have hE := each_c (op := x.op) (nm := x.nm) (n := x.n) (pos := x.pos) hok hk true hn
    rw [e] at hE
    refine ⟨true, ?_, fun z hz => (by
      simp [kOp, hrs] at hz
      cases hq : eachS true (kSs l x.kids) <;> rw [hq] at hz <;> simp [KD.to] at hz
      exact hz.symm)⟩
    rw [C_XS' E_check_kind _ _ rfl]
    cases hq : eachS true (kSs l x.kids) with
    | ok z =>
      rw [hq] at hE
      simp only [errK] at hE
      simp (maxDischargeDepth := 9) only [go_sem, ↓reduceIte, reduceCtorEq, Nat.reduceEqDiff, Int.reduceLE, Int.reduceLT, Int.reduceEq, Int.reduceNeg, Int.reduceAdd, Int.reduceSub, Nat.reduceAdd, Nat.reduceLeDiff, argFr, hok, AH.ext_nil, strOp, List.cons.injEq, false_and, and_false, or_self, or_false, false_or, true_or, or_true, kOp, hrs, errK, hE, hq, KD.to]
    | err p n =>
      rw [hq] at hE
      simp only [errK, atE] at hE
      simp (maxDischargeDepth := 9) only [go_sem, ↓reduceIte, reduceCtorEq, Nat.reduceEqDiff, Int.reduceLE, Int.reduceLT, Int.reduceEq, Int.reduceNeg, Int.reduceAdd, Int.reduceSub, Nat.reduceAdd, Nat.reduceLeDiff, argFr, hok, AH.ext_nil, strOp, List.cons.injEq, false_and, and_false, or_self, or_false, false_or, true_or, or_true, kOp, hrs, errK, hE, hq, KD.to, atE]
  · rw [e] at hw ⊢
    have hrs : (kSs l x.kids).length = 2 := by rw [kSs_len, hw]; rfl
    have hn : x.kids.length ≤ 100000 := by rw [hw]; decide
    have hE := each_c (op := x.op) (nm := x.nm) (n := x.n) (pos := x.pos) hok hk true hn
    rw [e] at hE
    refine ⟨true, ?_, fun z hz => (by
      simp [kOp, hrs] at hz
      cases hq : eachS true (kSs l x.kids) <;> rw [hq] at hz <;> simp [KD.to] at hz
      exact hz.symm)⟩
    rw [C_XS' E_check_kind _ _ rfl]
    cases hq : eachS true (kSs l x.kids) with
    | ok z =>
      rw [hq] at hE
      simp only [errK] at hE
      simp (maxDischargeDepth := 9) only [go_sem, ↓reduceIte, reduceCtorEq, Nat.reduceEqDiff, Int.reduceLE, Int.reduceLT, Int.reduceEq, Int.reduceNeg, Int.reduceAdd, Int.reduceSub, Nat.reduceAdd, Nat.reduceLeDiff, argFr, hok, AH.ext_nil, strOp, List.cons.injEq, false_and, and_false, or_self, or_false, false_or, true_or, or_true, kOp, hrs, errK, hE, hq, KD.to]
    | err p n =>
      rw [hq] at hE
      simp only [errK, atE] at hE
      simp (maxDischargeDepth := 9) only [go_sem, ↓reduceIte, reduceCtorEq, Nat.reduceEqDiff, Int.reduceLE, Int.reduceLT, Int.reduceEq, Int.reduceNeg, Int.reduceAdd, Int.reduceSub, Nat.reduceAdd, Nat.reduceLeDiff, argFr, hok, AH.ext_nil, strOp, List.cons.injEq, false_and, and_false, or_self, or_false, false_or, true_or, or_true, kOp, hrs, errK, hE, hq, KD.to, atE]
  · rw [e] at hw ⊢
    obtain ⟨a, b, hab⟩ : ∃ a b, x.kids = [a, b] := by
      match hx : x.kids, hw with
      | [a, b], _ => exact ⟨a, b, rfl⟩
    rw [hab] at hk ⊢
    obtain ⟨z, hA, hz⟩ := alike_c (g := g) hok (hk a (by simp)) (hk b (by simp))
    refine ⟨true, ?_, fun z' hz' => (by
      simp [kOp, kSs] at hz'
      cases hq : alikeS (kS l a, a.pos) (kS l b, b.pos) <;> rw [hq] at hz' <;> simp [KD.to] at hz'
      exact hz'.symm)⟩
    rw [C_XS' E_check_kind _ _ rfl]
    have i0 : (encEs [a, b])[0]? = some (encE a) := rfl
    have i1 : (encEs [a, b])[1]? = some (encE b) := rfl
    have t0 : (0 : Int).toNat = 0 := rfl
    have t1 : (1 : Int).toNat = 1 := rfl
    cases hq : alikeS (kS l a, a.pos) (kS l b, b.pos) with
    | ok z =>
      rw [hq] at hA
      simp only [errK] at hA
      simp (maxDischargeDepth := 9) only [go_sem, ↓reduceIte, reduceCtorEq, Nat.reduceEqDiff, Int.reduceLE, Int.reduceLT, Int.reduceEq, Int.reduceNeg, Int.reduceAdd, Int.reduceSub, Nat.reduceAdd, Nat.reduceLeDiff, argFr, hok, AH.ext_nil, strOp, List.cons.injEq, false_and, and_false, or_self, or_false, false_or, true_or, or_true, i0, i1, t0, t1, encE_eq, kOp, kSs, errK, hA, hq, KD.to]
    | err p n =>
      rw [hq] at hA
      simp only [errK, atE] at hA
      simp (maxDischargeDepth := 9) only [go_sem, ↓reduceIte, reduceCtorEq, Nat.reduceEqDiff, Int.reduceLE, Int.reduceLT, Int.reduceEq, Int.reduceNeg, Int.reduceAdd, Int.reduceSub, Nat.reduceAdd, Nat.reduceLeDiff, argFr, hok, AH.ext_nil, strOp, List.cons.injEq, false_and, and_false, or_self, or_false, false_or, true_or, or_true, i0, i1, t0, t1, encE_eq, kOp, kSs, errK, hA, hq, KD.to, atE]
  · rw [e] at hw ⊢
    obtain ⟨a, b, hab⟩ : ∃ a b, x.kids = [a, b] := by
      match hx : x.kids, hw with
      | [a, b], _ => exact ⟨a, b, rfl⟩
    rw [hab] at hk ⊢
    obtain ⟨z, hA, hz⟩ := alike_c (g := g) hok (hk a (by simp)) (hk b (by simp))
    refine ⟨true, ?_, fun z' hz' => (by
      simp [kOp, kSs] at hz'
      cases hq : alikeS (kS l a, a.pos) (kS l b, b.pos) <;> rw [hq] at hz' <;> simp [KD.to] at hz'
      exact hz'.symm)⟩
    rw [C_XS' E_check_kind _ _ rfl]
    have i0 : (encEs [a, b])[0]? = some (encE a) := rfl
    have i1 : (encEs [a, b])[1]? = some (encE b) := rfl
    have t0 : (0 : Int).toNat = 0 := rfl
    have t1 : (1 : Int).toNat = 1 := rfl
    cases hq : alikeS (kS l a, a.pos) (kS l b, b.pos) with
    | ok z =>
      rw [hq] at hA
      simp only [errK] at hA
      simp (maxDischargeDepth := 9) only [go_sem, ↓reduceIte, reduceCtorEq, Nat.reduceEqDiff, Int.reduceLE, Int.reduceLT, Int.reduceEq, Int.reduceNeg, Int.reduceAdd, Int.reduceSub, Nat.reduceAdd, Nat.reduceLeDiff, argFr, hok, AH.ext_nil, strOp, List.cons.injEq, false_and, and_false, or_self, or_false, false_or, true_or, or_true, i0, i1, t0, t1, encE_eq, kOp, kSs, errK, hA, hq, KD.to]
    | err p n =>
      rw [hq] at hA
      simp only [errK, atE] at hA
      simp (maxDischargeDepth := 9) only [go_sem, ↓reduceIte, reduceCtorEq, Nat.reduceEqDiff, Int.reduceLE, Int.reduceLT, Int.reduceEq, Int.reduceNeg, Int.reduceAdd, Int.reduceSub, Nat.reduceAdd, Nat.reduceLeDiff, argFr, hok, AH.ext_nil, strOp, List.cons.injEq, false_and, and_false, or_self, or_false, false_or, true_or, or_true, i0, i1, t0, t1, encE_eq, kOp, kSs, errK, hA, hq, KD.to, atE]
  · rw [e] at hw ⊢
    obtain ⟨a, b, c, hab⟩ : ∃ a b c, x.kids = [a, b, c] := by
      match hx : x.kids, hw with
      | [a, b, c], _ => exact ⟨a, b, c, rfl⟩
    rw [hab] at hk ⊢
    have hM := must_c (g := g) hok (hk a (by simp)) true
    obtain ⟨z, hA, hz⟩ := alike_c (g := g) hok (hk b (by simp)) (hk c (by simp))
    have i0 : (encEs [a, b, c])[0]? = some (encE a) := rfl
    have i1 : (encEs [a, b, c])[1]? = some (encE b) := rfl
    have i2 : (encEs [a, b, c])[2]? = some (encE c) := rfl
    have t0 : (0 : Int).toNat = 0 := rfl
    have t1 : (1 : Int).toNat = 1 := rfl
    have t2 : (2 : Int).toNat = 2 := rfl
    cases hm : mustS (kS l a, a.pos) true with
    | err p n =>
      rw [hm] at hM
      simp only [errK, atE] at hM
      refine ⟨false, ?_, fun z' hz' => by simp [kOp, kSs, hm] at hz'⟩
      rw [C_XS' E_check_kind _ _ rfl]
      simp (maxDischargeDepth := 9) only [go_sem, ↓reduceIte, reduceCtorEq, Nat.reduceEqDiff, Int.reduceLE, Int.reduceLT, Int.reduceEq, Int.reduceNeg, Int.reduceAdd, Int.reduceSub, Nat.reduceAdd, Nat.reduceLeDiff, argFr, hok, AH.ext_nil, strOp, List.cons.injEq, false_and, and_false, or_self, or_false, false_or, true_or, or_true, i0, i1, i2, t0, t1, t2, encE_eq, kOp, kSs, errK, hM, hm, atE]
    | ok w =>
      rw [hm] at hM
      simp only [errK] at hM
      cases hq : alikeS (kS l b, b.pos) (kS l c, c.pos) with
      | ok z' =>
        rw [hq] at hA
        simp only [errK] at hA
        refine ⟨z, ?_, fun y hy => hz y (by simp [kOp, kSs, hm, hq] at hy; rw [hy] at hq; exact hq)⟩
        rw [C_XS' E_check_kind _ _ rfl]
        simp (maxDischargeDepth := 9) only [go_sem, ↓reduceIte, reduceCtorEq, Nat.reduceEqDiff, Int.reduceLE, Int.reduceLT, Int.reduceEq, Int.reduceNeg, Int.reduceAdd, Int.reduceSub, Nat.reduceAdd, Nat.reduceLeDiff, argFr, hok, AH.ext_nil, strOp, List.cons.injEq, false_and, and_false, or_self, or_false, false_or, true_or, or_true, i0, i1, i2, t0, t1, t2, encE_eq, kOp, kSs, errK, hM, hm, hA, hq]
      | err p n =>
        rw [hq] at hA
        simp only [errK, atE] at hA
        refine ⟨z, ?_, fun y hy => hz y (by simp [kOp, kSs, hm, hq] at hy)⟩
        rw [C_XS' E_check_kind _ _ rfl]
        simp (maxDischargeDepth := 9) only [go_sem, ↓reduceIte, reduceCtorEq, Nat.reduceEqDiff, Int.reduceLE, Int.reduceLT, Int.reduceEq, Int.reduceNeg, Int.reduceAdd, Int.reduceSub, Nat.reduceAdd, Nat.reduceLeDiff, argFr, hok, AH.ext_nil, strOp, List.cons.injEq, false_and, and_false, or_self, or_false, false_or, true_or, or_true, i0, i1, i2, t0, t1, t2, encE_eq, kOp, kSs, errK, hM, hm, hA, hq, atE]
  · refine ⟨false, ?_, fun z hz => by simp [kOp, *] at hz⟩
    rw [C_XS' E_check_kind _ _ rfl]
    simp (maxDischargeDepth := 9) only [go_sem, ↓reduceIte, reduceCtorEq, Nat.reduceEqDiff, Int.reduceLE, Int.reduceLT, Int.reduceEq, Int.reduceNeg, Int.reduceAdd, Int.reduceSub, Nat.reduceAdd, Nat.reduceLeDiff, argFr, hok, AH.ext_nil, strOp, List.cons.injEq, false_and, and_false, or_self, or_false, false_or, true_or, or_true, kOp, errK, h1, h2, h3, h4, h5, h6, h7, h8, h9, i1, i2, i3, i4, i5, i6, i7, i8, i9, j1, chkAt_c hok, atE]
end
end Go.Proofs.YtfahpmlckobpmaaGreatDoor.Pi
