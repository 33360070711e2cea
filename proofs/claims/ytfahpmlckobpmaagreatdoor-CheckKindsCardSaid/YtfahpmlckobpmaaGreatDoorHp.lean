/-
  Heaps of the abstract run, for walks: a known beginning and blocks behind it; what a call leaves; the walk through regions in whatever order.
-/
import Derived.Test.YtfahpmlckobpmaaGreatDoorPiA
import Derived.Attr
set_option linter.unusedSimpArgs false
set_option linter.unusedVariables false
set_option linter.unusedSectionVars false
namespace Go.Proofs.YtfahpmlckobpmaaGreatDoor.Pi
open Go

namespace AH
/-- what was noted leads from an elder block to a younger one that is there -/
def ok (h : AH) : Prop := ∀ e ∈ h.esc, e.1 < e.2 ∧ e.2 < h.bl.length
/-- blocks behind it -/
def ext (h : AH) (l : List (Option ABlk)) (e : List (Nat × Nat)) : AH := ⟨h.bl ++ l, e ++ h.esc⟩
/-- how many -/
def len (h : AH) : Nat := h.bl.length

variable {h : AH} {N : Nat} {l : List (Option ABlk)} {e : List (Nat × Nat)}
theorem next_len : h.next = h.len := rfl
theorem ext_nil : h.ext [] [] = h := by simp [ext]
theorem len_ext : (h.ext l e).len = h.len + l.length := by simp [ext, len]
theorem len_set (i : Nat) (b : ABlk) : (h.set i b).len = h.len := by simp [AH.set, len]
theorem len_drop (i : Nat) : (h.drop i).len = h.len := by simp [AH.drop, len]
theorem len_push (b : ABlk) : (h.push b).len = h.len + 1 := by simp [AH.push, len]
theorem next_ext (hN : h.len = N) : (h.ext l e).next = N + l.length := by rw [next_len, len_ext, hN]
theorem next_ext' : (h.ext l e).next = h.len + l.length := by rw [next_len, len_ext]
theorem push_ext (b : ABlk) : (h.ext l e).push b = h.ext (l ++ [some b]) e := by simp [ext, AH.push]
theorem get_ext (hN : h.len = N) (k : Nat) : (h.ext l e).get (N + k) = (l[k]?).join := by
  subst hN
  simp only [AH.get, ext, len]
  rw [List.getElem?_append_right (by omega)]
  congr 2; omega
theorem get_ext_old (hN : h.len = N) {i : Nat} (hi : i < N) : (h.ext l e).get i = h.get i := by
  subst hN
  simp only [AH.get, ext]
  rw [List.getElem?_append_left hi]
theorem set_ext (hN : h.len = N) (k : Nat) (b : ABlk) : (h.ext l e).set (N + k) b = h.ext (l.set k (some b)) e := by
  subst hN
  simp only [AH.set, ext, len]
  rw [List.set_append_right _ _ (by omega)]
  congr 3; omega
theorem set_ext_old (hN : h.len = N) {i : Nat} (hi : i < N) (b : ABlk) : (h.ext l e).set i b = (h.set i b).ext l e := by
  subst hN
  simp only [AH.set, ext]
  rw [List.set_append_left _ _ hi]
theorem drop_ext (hN : h.len = N) (k : Nat) : (h.ext l e).drop (N + k) = h.ext (l.set k none) e := by
  subst hN
  simp only [AH.drop, ext, len]
  rw [List.set_append_right _ _ (by omega)]
  congr 3; omega
theorem drop_ext_old (hN : h.len = N) {i : Nat} (hi : i < N) : (h.ext l e).drop i = (h.drop i).ext l e := by
  subst hN
  simp only [AH.drop, ext]
  rw [List.set_append_left _ _ hi]
theorem note_nil (i : Nat) : h.note i [] = h := by simp [AH.note]
theorem note_ext (i : Nat) (rs : List Nat) : (h.ext l e).note i rs = h.ext l ((rs.filter fun r => decide (i < r)).map (fun r => (i, r)) ++ e) := by simp [ext, AH.note]
theorem get_set {i : Nat} (hi : i < h.len) (b : ABlk) : (h.set i b).get i = some b := by
  simp only [AH.get, AH.set]
  rw [List.getElem?_set_self hi]; rfl
theorem get_set_ne {i j : Nat} (hij : i ≠ j) (b : ABlk) : (h.set i b).get j = h.get j := by
  simp only [AH.get, AH.set]
  rw [List.getElem?_set_ne hij]
theorem set_set (i : Nat) (b c : ABlk) : (h.set i b).set i c = h.set i c := by simp [AH.set]
theorem set_same {i : Nat} {b : ABlk} (hb : h.get i = some b) : h.set i b = h := by
  simp only [AH.get, AH.set] at hb ⊢
  cases h with
  | mk bl esc =>
    simp only [AH.mk.injEq, and_true] at hb ⊢
    apply List.ext_getElem?
    intro j
    by_cases hj : i = j
    · subst hj
      cases hx : bl[i]? with
      | none => simp [hx] at hb
      | some x =>
        have hlt := (List.getElem?_eq_some_iff.1 hx).1
        rw [List.getElem?_set_self hlt]
        simp only [hx, Option.join_some] at hb
        rw [hb]
    · rw [List.getElem?_set_ne hj]
theorem lt_of_get {i : Nat} {b : ABlk} (hb : h.get i = some b) : i < h.len := by
  simp only [AH.get] at hb
  cases hx : h.bl[i]? with
  | none => simp [hx] at hb
  | some x => exact (List.getElem?_eq_some_iff.1 hx).1

theorem ok_set (hk : h.ok) (i : Nat) (b : ABlk) : (h.set i b).ok := by
  intro x hx; have := hk x hx; simpa [AH.set] using this
theorem ok_drop (hk : h.ok) (i : Nat) : (h.drop i).ok := by
  intro x hx; have := hk x hx; simpa [AH.drop] using this
theorem ok_push (hk : h.ok) (b : ABlk) : (h.push b).ok := by
  intro x hx; have := hk x hx; simp only [AH.push, List.length_append, List.length_cons, List.length_nil]; omega
theorem ok_ext (hk : h.ok) (he : ∀ x ∈ e, x.1 < x.2 ∧ x.2 < h.len + l.length) : (h.ext l e).ok := by
  intro x hx
  simp only [ext, List.mem_append, List.length_append] at hx ⊢
  rcases hx with hx | hx
  · exact he x hx
  · have := hk x hx; omega
theorem ok_ext0 (hk : h.ok) : (h.ext l []).ok := ok_ext hk (by simp)
theorem ok_empty : (⟨[], []⟩ : AH).ok := by intro x hx; cases hx

/-- the call's own blocks are let go -/
theorem cut_ext (hN : h.len = N) (hk : h.ok) (he : ∀ x ∈ e, N ≤ x.1) : (h.ext l e).cut N = h := by
  subst hN
  have h1 : e.filter (fun x => decide (x.1 < h.bl.length)) = [] := List.filter_eq_nil_iff.2 fun x hx => by have := he x hx; simp only [len, decide_eq_true_eq] at this ⊢; omega
  have h2 : h.esc.filter (fun x => decide (x.1 < h.bl.length)) = h.esc := List.filter_eq_self.2 fun x hx => by have := hk x hx; simp only [decide_eq_true_eq]; omega
  show (⟨(h.bl ++ l).take h.bl.length, (e ++ h.esc).filter fun x => decide (x.1 < h.bl.length)⟩ : AH) = h
  rw [List.filter_append, h1, h2, List.take_left' rfl]
  rfl
theorem closed_ext (hN : h.len = N) (hk : h.ok) (he : ∀ x ∈ e, N ≤ x.1) : (h.ext l e).closed N = true := by
  subst hN
  simp only [AH.closed, ext, List.all_eq_true, List.mem_append]
  intro x hx
  simp only [Bool.not_eq_true', Bool.and_eq_false_iff, decide_eq_false_iff_not]
  rcases hx with hx | hx
  · have := he x hx; left; omega
  · have := hk x hx; right; simp only [len]; omega
theorem leave_ext (hN : h.len = N) (hk : h.ok) (he : ∀ x ∈ e, N ≤ x.1) {vs : List AV} (hv : ∀ r ∈ refsL vs, r < N) : leave N vs (h.ext l e) = h := by
  unfold leave
  have h1 : ((refsL vs).all fun r => decide (r < N)) = true := List.all_eq_true.2 fun r hr => decide_eq_true (hv r hr)
  rw [h1, closed_ext hN hk he]
  simp [cut_ext hN hk he]
theorem leave_none (hN : h.len = N) (hk : h.ok) (he : ∀ x ∈ e, N ≤ x.1) {vs : List AV} (hv : refsL vs = []) : leave N vs (h.ext l e) = h :=
  leave_ext hN hk he (by rw [hv]; intro r hr; cases hr)
theorem leave_old (hN : h.len = N) (hk : h.ok) {vs : List AV} (hv : refsL vs = []) : leave N vs h = h := by
  have := leave_none (l := []) (e := []) hN hk (by simp) hv
  rwa [ext_nil] at this
theorem leave_keep {vs : List AV} {N : Nat} (hr : ((refsL vs).all fun r => decide (r < N)) = false) : leave N vs h = h := by
  unfold leave; simp [hr]
end AH

theorem app_get0 {α : Type} (G l : List α) : (G ++ l)[G.length]? = l[0]? := by rw [List.getElem?_append_right (Nat.le_refl _), Nat.sub_self]
theorem app_getk {α : Type} (G l : List α) (k : Nat) : (G ++ l)[G.length + k]? = l[k]? := by rw [List.getElem?_append_right (Nat.le_add_right _ _), Nat.add_sub_cancel_left]
theorem app_set0 {α : Type} (G l : List α) (x : α) : (G ++ l).set G.length x = G ++ l.set 0 x := by rw [List.set_append_right _ _ (Nat.le_refl _), Nat.sub_self]
theorem app_setk {α : Type} (G l : List α) (k : Nat) (x : α) : (G ++ l).set (G.length + k) x = G ++ l.set k x := by rw [List.set_append_right _ _ (Nat.le_add_right _ _), Nat.add_sub_cancel_left]
theorem b_ft : (false == true) = false := rfl
theorem b_tf : (true == false) = false := rfl

/-! ### the same, told twice -/
mutual
theorem AV.same_refl : ∀ (a : AV), a.same a = true
  | .any | .nilp | .nilm | .nilf | .nili => by simp [AV.same]
  | .bool _ | .int _ _ | .str _ | .ptr _ _ _ | .ms _ _ _ | .map _ => by simp [AV.same]
  | .ref a => by simp [AV.same, sameL_refl a]
  | .vs a _ => by simp [AV.same, sameLL_refl a]
  | .fn _ a b => by simp [AV.same, sameL_refl a, sameL_refl b]
  | .iface _ a => by simp [AV.same, AV.same_refl a]
  | .agg a => by simp [AV.same, sameL_refl a]
  | .tup a => by simp [AV.same, sameL_refl a]
theorem sameL_refl : ∀ (a : List AV), sameL a a = true
  | [] => by simp [sameL]
  | a :: x => by simp [sameL, AV.same_refl a, sameL_refl x]
theorem sameLL_refl : ∀ (a : List (List AV)), sameLL a a = true
  | [] => by simp [sameLL]
  | a :: x => by simp [sameLL, sameL_refl a, sameLL_refl x]
end

/-! ### regions in whatever order -/
noncomputable def XD (E : Env) (ops : List DOp) (als : List (Nat × Nat × List AV)) (keep : List Nat) (ks : List Cont) (fr : Fr) (h : AH) (sn : List AH) (ck : List Ck) : Res :=
  (dRun (C E) ops fr h sn ck).bind fun x => if winOK (C E) x.2.2.1 x.2.2.2 then KN E ks .norm (keepFr keep (alsRun als x.1 x.2.1).1) (alsRun als x.1 x.2.1).2 else none
noncomputable def XDv (E : Env) (r : Option (AV × AH)) (w : Option (Nat × Nat)) (d : Option Nat) (o : AOp) (ops : List DOp) (als : List (Nat × Nat × List AV)) (keep : List Nat) (ks : List Cont) (fr : Fr) (h : AH) (sn : List AH) (ck : List Ck) : Res :=
  r.bind fun x => XD E ops als keep ks (putFr fr d x.1) h sn (ckOf fr o x.1 w ++ ck)
noncomputable def XDe (E : Env) (r : Option (AV × AH)) (d : Option Nat) (ops : List DOp) (als : List (Nat × Nat × List AV)) (keep : List Nat) (ks : List Cont) (fr : Fr) (sn : List AH) (ck : List Ck) : Res :=
  r.bind fun x => XD E ops als keep ks (putFr fr d x.1) x.2 (sn ++ [x.2]) ck
noncomputable def XDg (E : Env) (w : Option Bool) (ix : Nat) (win : Option (Nat × Nat)) (o : AOper) (ops : List DOp) (als : List (Nat × Nat × List AV)) (keep : List Nat) (ks : List Cont) (fr : Fr) (h : AH) (sn : List AH) (ck : List Ck) : Res :=
  match w with
  | some true => XD E (.val ix win { o with guard := none } :: ops) als keep ks fr h sn ck
  | some false => XD E ops als keep ks (putFr fr o.dst (.tup [])) h sn ck
  | none => none
noncomputable def XDh (E : Env) (w : Option Bool) (ix : Nat) (o : AOper) (ops : List DOp) (als : List (Nat × Nat × List AV)) (keep : List Nat) (ks : List Cont) (fr : Fr) (h : AH) (sn : List AH) (ck : List Ck) : Res :=
  match w with
  | some true => XD E (.eff [] ix { o with guard := none } :: ops) als keep ks fr h sn ck
  | some false => XD E ops als keep ks (putFr fr o.dst (.tup [])) h (sn ++ [h]) ck
  | none => none
/-- made early -/
noncomputable def XDa (E : Env) (x : Fr × AH) (ix : Nat) (o : AOper) (ops : List DOp) (als : List (Nat × Nat × List AV)) (keep : List Nat) (ks : List Cont) (sn : List AH) (ck : List Ck) : Res :=
  XD E (.eff [] ix o :: ops) als keep ks x.1 x.2 sn ck

section
variable {E : Env} {ks : List Cont} {fr : Fr} {h : AH} {ops : List DOp} {als : List (Nat × Nat × List AV)} {keep : List Nat} {d : Option Nat} {sn : List AH} {ck : List Ck}

theorem XS_regd (ops : List DOp) (als : List (Nat × Nat × List AV)) (keep : List Nat) : XS E (.regd ops als keep) ks fr h = XD E ops als keep ks fr h [h] [] := by
  simp only [XS, XD, X_regd, regdRun, Option.bind_assoc]
  congr 1; funext x
  split <;> rfl
theorem XD_val (ix : Nat) (w : Option (Nat × Nat)) (o : AOp) : XD E (.val ix w ⟨d, o, none⟩ :: ops) als keep ks fr h sn ck = XDv E (opRun (C E) o fr h) w d o ops als keep ks fr h sn ck := by
  simp only [XD, XDv, dRun, opWanted, Option.bind_assoc]
theorem XD_eff (ix : Nat) (o : AOp) : XD E (.eff [] ix ⟨d, o, none⟩ :: ops) als keep ks fr h sn ck = XDe E (opRun (C E) o fr h) d ops als keep ks fr sn ck := by
  simp only [XD, XDe, dRun, opWanted, alsRun, Option.bind_assoc]
theorem XD_valg (ix : Nat) (w : Option (Nat × Nat)) (o : AOp) (t : Nat) (b : Bool) : XD E (.val ix w ⟨d, o, some (t, b)⟩ :: ops) als keep ks fr h sn ck = XDg E (opWanted fr (some (t, b))) ix w ⟨d, o, some (t, b)⟩ ops als keep ks fr h sn ck := by
  simp only [XD, XDg, dRun]
  cases opWanted fr (some (t, b)) with
  | none => rfl
  | some w => cases w <;> rfl
theorem XD_effg (ix : Nat) (o : AOp) (t : Nat) (b : Bool) : XD E (.eff [] ix ⟨d, o, some (t, b)⟩ :: ops) als keep ks fr h sn ck = XDh E (opWanted fr (some (t, b))) ix ⟨d, o, some (t, b)⟩ ops als keep ks fr h sn ck := by
  simp only [XD, XDh, dRun, alsRun]
  cases opWanted fr (some (t, b)) with
  | none => rfl
  | some w => cases w <;> rfl
theorem XD_effa (a : Nat × Nat × List AV) (al : List (Nat × Nat × List AV)) (ix : Nat) (o : AOper) : XD E (.eff (a :: al) ix o :: ops) als keep ks fr h sn ck = XDa E (alsRun (a :: al) fr h) ix o ops als keep ks sn ck := by
  simp only [XD, XDa, dRun]
  rw [show alsRun [] (alsRun (a :: al) fr h).1 (alsRun (a :: al) fr h).2 = alsRun (a :: al) fr h from rfl]
theorem XDa_mk (fr : Fr) (h : AH) (ix : Nat) (o : AOper) : XDa E (fr, h) ix o ops als keep ks sn ck = XD E (.eff [] ix o :: ops) als keep ks fr h sn ck := rfl
theorem XD_nil : XD E [] als keep ks fr h sn ck = if winOK (C E) sn ck then KN E ks .norm (keepFr keep (alsRun als fr h).1) (alsRun als fr h).2 else none := by
  simp only [XD, dRun, Option.bind_some]
theorem XDv_some (v : AV) (h' : AH) (w : Option (Nat × Nat)) (o : AOp) : XDv E (some (v, h')) w d o ops als keep ks fr h sn ck = XD E ops als keep ks (putFr fr d v) h sn (ckOf fr o v w ++ ck) := rfl
theorem XDe_some (v : AV) (h' : AH) : XDe E (some (v, h')) d ops als keep ks fr sn ck = XD E ops als keep ks (putFr fr d v) h' (sn ++ [h']) ck := rfl
theorem XDg_true (ix : Nat) (w : Option (Nat × Nat)) (o : AOp) (g : Option (Nat × Bool)) : XDg E (some true) ix w ⟨d, o, g⟩ ops als keep ks fr h sn ck = XD E (.val ix w ⟨d, o, none⟩ :: ops) als keep ks fr h sn ck := rfl
theorem XDg_false (ix : Nat) (w : Option (Nat × Nat)) (o : AOp) (g : Option (Nat × Bool)) : XDg E (some false) ix w ⟨d, o, g⟩ ops als keep ks fr h sn ck = XD E ops als keep ks (putFr fr d (.tup [])) h sn ck := rfl
theorem XDh_true (ix : Nat) (o : AOp) (g : Option (Nat × Bool)) : XDh E (some true) ix ⟨d, o, g⟩ ops als keep ks fr h sn ck = XD E (.eff [] ix ⟨d, o, none⟩ :: ops) als keep ks fr h sn ck := rfl
theorem XDh_false (ix : Nat) (o : AOp) (g : Option (Nat × Bool)) : XDh E (some false) ix ⟨d, o, g⟩ ops als keep ks fr h sn ck = XD E ops als keep ks (putFr fr d (.tup [])) h (sn ++ [h]) ck := rfl
theorem XD_mv (ix : Nat) (w : Option (Nat × Nat)) (x : Opd) : XD E (.val ix w ⟨d, .mv x, none⟩ :: ops) als keep ks fr h sn ck = XD E ops als keep ks (putFr fr d (x.ev fr)) h sn (ckOf fr (.mv x) (x.ev fr) w ++ ck) := by
  simp only [XD_val, opRun, XDv_some]

theorem winOK_nil (sn : List AH) : winOK (C E) sn [] = true := rfl
theorem winOK_cons (sn : List AH) (c : Ck) (r : List Ck) : winOK (C E) sn (c :: r) = ((((sn.drop c.lo).take c.n).all fun H => winAt (C E) c H) && winOK (C E) sn r) := rfl
theorem winAt_some {c : Ck} {H H' : AH} (hv : opRun (C E) c.o c.fr H = some (c.v, H')) : winAt (C E) c H = true := by
  unfold winAt; rw [hv]; exact AV.same_refl _
/-- what the operation tells in a state, held against what it told -/
def winV (r : Option (AV × AH)) (v : AV) : Bool :=
  match r with
  | some x => x.1.same v
  | none => false
theorem winAt_mk (fr : Fr) (o : AOp) (v : AV) (lo n : Nat) (H : AH) : winAt (C E) ⟨fr, o, v, lo, n⟩ H = winV (opRun (C E) o fr H) v := rfl
theorem winV_same (v : AV) (H : AH) : winV (some (v, H)) v = true := AV.same_refl v

/-- a call's end: its results' places -/
def FINR (rs : List RV) (n : Nat) (x : Ex × Fr × AH) : Option (AV × AH) :=
  match x.1 with
  | .exit _ => none
  | _ => (results x.2.1 x.2.2 rs).bind fun vs => (frzVals n vs x.2.2).bind fun y => some (asResult y.1, leave n y.1 y.2)

/-! ### 'simp' does not look into what is still to be done -/
section
variable {c : AC} {ks : List Cont} {fr fr' : Fr} {h h' : AH} {keep : List Nat} {d : Option Nat}
@[congr] theorem XS_congr (e1 : fr = fr') (e2 : h = h') : XS E c ks fr h = XS E c ks fr' h' := by rw [e1, e2]
@[congr] theorem XL_congr (e1 : fr = fr') (e2 : h = h') : XL E c keep ks fr h = XL E c keep ks fr' h' := by rw [e1, e2]
@[congr] theorem KR_congr {r r' : Res} (e : r = r') : KR E ks r = KR E ks r' := by rw [e]
@[congr] theorem KN_congr {e e' : Ex} (e0 : e = e') (e1 : fr = fr') (e2 : h = h') : KN E ks e fr h = KN E ks e' fr' h' := by rw [e0, e1, e2]
@[congr] theorem XR_congr {ops ops' : List AOper} (e0 : ops = ops') (e1 : fr = fr') (e2 : h = h') : XR E ops keep ks fr h = XR E ops' keep ks fr' h' := by rw [e0, e1, e2]
@[congr] theorem XV_congr {r r' : Option AV} {ops : List AOper} (e0 : r = r') (e1 : fr = fr') (e2 : h = h') : XV E r d ops keep ks fr h = XV E r' d ops keep ks fr' h' := by rw [e0, e1, e2]
@[congr] theorem XH_congr {r r' : Option (AV × AH)} {ops : List AOper} (e0 : r = r') (e1 : fr = fr') : XH E r d ops keep ks fr = XH E r' d ops keep ks fr' := by rw [e0, e1]
@[congr] theorem XG_congr {w w' : Option Bool} {o : AOper} {ops : List AOper} (e0 : w = w') (e1 : fr = fr') (e2 : h = h') : XG E w o ops keep ks fr h = XG E w' o ops keep ks fr' h' := by rw [e0, e1, e2]
@[congr] theorem XB_congr {v v' : AV} {t e : AC} (e0 : v = v') (e1 : fr = fr') (e2 : h = h') : XB E v t e ks fr h = XB E v' t e ks fr' h' := by rw [e0, e1, e2]
@[congr] theorem LP_congr (e1 : fr = fr') (e2 : h = h') : LP E c keep fr h = LP E c keep fr' h' := by rw [e1, e2]
@[congr] theorem FINR_congr {rs : List RV} {n n' : Nat} {x x' : Ex × Fr × AH} (e0 : n = n') (e1 : x = x') : FINR rs n x = FINR rs n' x' := by rw [e0, e1]
end

/-! ### a call -/
/-- a call that tells something of a kind -/
def Rt (E : Env) (f : Nat) (a : List AV) (h : AH) (Q : AV → AH → Prop) : Prop := ∃ x, C E f a h = some x ∧ Q x.1 x.2
theorem Rt.mono {f : Nat} {a : List AV} {h : AH} {P Q : AV → AH → Prop} (hr : Rt E f a h P) (hq : ∀ v h', P v h' → Q v h') : Rt E f a h Q := let ⟨x, h1, h2⟩ := hr; ⟨x, h1, hq _ _ h2⟩
theorem Rt_of {f : Nat} {a : List AV} {h : AH} {v : AV} {h' : AH} {Q : AV → AH → Prop} (hr : C E f a h = some (v, h')) (hq : Q v h') : Rt E f a h Q := ⟨_, hr, hq⟩
theorem W_call {f : Nat} {a : List AV} {P : AV → AH → Prop} {d : Option Nat} {ops : List AOper} {β : Type} {k : Ex × Fr × AH → Option β} {Q : β → Prop} (hc : Rt E f a h P)
    (hk : ∀ v h', P v h' → ∃ x, (XR E ops keep ks (putFr fr d v) h').bind k = some x ∧ Q x) : ∃ x, (XH E (C E f a h) d ops keep ks fr).bind k = some x ∧ Q x := by
  obtain ⟨⟨v, h'⟩, h1, h2⟩ := hc
  rw [h1, XH_some]
  exact hk v h' h2
/-- the same ahead of a loop's end -/
theorem W_callL {f : Nat} {a : List AV} {P : AV → AH → Prop} {d : Option Nat} {ops : List AOper} {Q : Ex × Fr × AH → Prop} (hc : Rt E f a h P)
    (hk : ∀ v h', P v h' → ∃ x, XR E ops keep ks (putFr fr d v) h' = some x ∧ Q x) : ∃ x, XH E (C E f a h) d ops keep ks fr = some x ∧ Q x := by
  obtain ⟨⟨v, h'⟩, h1, h2⟩ := hc
  rw [h1, XH_some]
  exact hk v h' h2
theorem W_callD {f : Nat} {a : List AV} {P : AV → AH → Prop} {ops : List DOp} {β : Type} {k : Ex × Fr × AH → Option β} {Q : β → Prop} (hc : Rt E f a h P)
    (hk : ∀ v h', P v h' → ∃ x, (XD E ops als keep ks (putFr fr d v) h' (sn ++ [h']) ck).bind k = some x ∧ Q x) : ∃ x, (XDe E (C E f a h) d ops als keep ks fr sn ck).bind k = some x ∧ Q x := by
  obtain ⟨⟨v, h'⟩, h1, h2⟩ := hc
  rw [h1, XDe_some]
  exact hk v h' h2
/-- a loop of which it is known what it comes to -/
theorem W_loop {r : Res} {β : Type} {k : Ex × Fr × AH → Option β} {P : Ex × Fr × AH → Prop} {Q : β → Prop} (hr : ∃ x, r = some x ∧ P x) (hk : ∀ e fr h, P (e, fr, h) → ∃ x, (KN E ks e fr h).bind k = some x ∧ Q x) :
    ∃ x, (KR E ks r).bind k = some x ∧ Q x := by
  obtain ⟨⟨e, fr, h⟩, h1, h2⟩ := hr
  rw [h1, KR_some]
  exact hk e fr h h2
theorem W_loopL {r : Res} {P : Ex × Fr × AH → Prop} {Q : Ex × Fr × AH → Prop} (hr : ∃ x, r = some x ∧ P x) (hk : ∀ e fr h, P (e, fr, h) → ∃ x, KN E ks e fr h = some x ∧ Q x) :
    ∃ x, KR E ks r = some x ∧ Q x := by
  obtain ⟨⟨e, fr, h⟩, h1, h2⟩ := hr
  rw [h1, KR_some]
  exact hk e fr h h2

theorem FIN_FINR {nt : Nat} {c : AC} {rs : List RV} (n : Nat) : FIN ⟨nt, c, rs, true⟩ n = FINR rs n := by
  funext x
  obtain ⟨e, fr, h⟩ := x
  cases e <;> simp only [FIN, FINR, finish, if_true]
theorem C_XS' {f nt : Nat} {c : AC} {rs : List RV} (hE : E.ext f = none ∧ E.fns f = some ⟨nt, c, rs, true⟩) (a : List AV) (h : AH) (hl : decide (a.length ≤ nt) = true) : C E f a h = (XS E c [] (argFr 0 a) (h.ext [] [])).bind (FINR rs h.len) := by
  rw [AH.ext_nil, ← FIN_FINR]; exact C_XS hE.1 hE.2 a h (of_decide_eq_true hl)
theorem Rt_fn {f nt : Nat} {c : AC} {rs : List RV} (hE : E.ext f = none ∧ E.fns f = some ⟨nt, c, rs, true⟩) {a : List AV} {h : AH} {Q : AV → AH → Prop} (hl : decide (a.length ≤ nt) = true)
    (hw : ∃ x, (XS E c [] (argFr 0 a) (h.ext [] [])).bind (FINR rs h.len) = some x ∧ Q x.1 x.2) : Rt E f a h Q := by
  unfold Rt; rw [C_XS' hE a h hl]; exact hw
theorem FIN_ret (rs : List RV) (n : Nat) (fr : Fr) (h : AH) : FINR rs n (.ret, fr, h) = (results fr h rs).bind fun vs => (frzVals n vs h).bind fun x => some (asResult x.1, leave n x.1 x.2) := rfl
theorem FIN_norm (rs : List RV) (n : Nat) (fr : Fr) (h : AH) : FINR rs n (.norm, fr, h) = (results fr h rs).bind fun vs => (frzVals n vs h).bind fun x => some (asResult x.1, leave n x.1 x.2) := rfl
end

/-- how a loop ends, and what is known of the frame -/
theorem lp_mk {r : Res} {e : Ex} {fr : Fr} {h : AH} {Q : Fr → Prop} (hr : r = some (e, fr, h)) (hq : Q fr) : ∃ fr, r = some (e, fr, h) ∧ Q fr := ⟨fr, hr, hq⟩
theorem frzCell_bool (n : Nat) (b : Bool) (h : AH) : frzCell n (.bool b) h = some (.bool b, h) := rfl
theorem frzCell_int (n : Nat) (k : IntKind) (b : Int) (h : AH) : frzCell n (.int k b) h = some (.int k b, h) := rfl
theorem frzCell_str (n : Nat) (b : List Nat) (h : AH) : frzCell n (.str b) h = some (.str b, h) := rfl
theorem frzCell_vs (n : Nat) (e : List (List AV)) (t : Tok) (h : AH) : frzCell n (.vs e t) h = some (.vs e .shared, h) := rfl
theorem frzCell_nilp (n : Nat) (h : AH) : frzCell n .nilp h = some (.nilp, h) := rfl
theorem frzCell_nili (n : Nat) (h : AH) : frzCell n .nili h = some (.nili, h) := rfl
theorem frzCell_nilf (n : Nat) (h : AH) : frzCell n .nilf h = some (.nilf, h) := rfl
theorem frzCell_nilm (n : Nat) (h : AH) : frzCell n .nilm h = some (.nilm, h) := rfl
theorem frzCell_ref (n : Nat) (c : List AV) (h : AH) : frzCell n (.ref c) h = some (.ref c, h) := rfl
theorem frzCell_ptr (n i r o : Nat) (h : AH) : frzCell n (.ptr i r o) h = some (.ptr i r o, h) := rfl
theorem frzCell_map (n i : Nat) (h : AH) : frzCell n (.map i) h = some (.map i, h) := rfl
theorem frzCell_iface (n t : Nat) (v : AV) (h : AH) : frzCell n (.iface t v) h = some (.iface t v, h) := rfl
theorem frzCell_fn (n t : Nat) (a b : List AV) (h : AH) : frzCell n (.fn t a b) h = some (.fn t a b, h) := rfl
theorem frzCells_nil (n : Nat) (h : AH) : frzCells n [] h = some ([], h) := rfl
theorem frzCells_cons (n : Nat) (v : AV) (r : List AV) (h : AH) : frzCells n (v :: r) h = (frzCell n v h).bind fun x => (frzCells n r x.2).map fun y => (x.1 :: y.1, y.2) := rfl
theorem frzVals_nil (n : Nat) (h : AH) : frzVals n [] h = some ([], h) := rfl
theorem frzVals_cons (n : Nat) (v : AV) (r : List AV) (h : AH) : frzVals n (v :: r) h = (frzVal n v h).bind fun x => (frzVals n r x.2).map fun y => (x.1 :: y.1, y.2) := rfl
theorem frzVal_agg (n : Nat) (c : List AV) (h : AH) : frzVal n (.agg c) h = (frzCells n c h).map fun x => (.agg x.1, x.2) := rfl
theorem frzVal_bool (n : Nat) (b : Bool) (h : AH) : frzVal n (.bool b) h = some (.bool b, h) := rfl
theorem frzVal_int (n : Nat) (k : IntKind) (b : Int) (h : AH) : frzVal n (.int k b) h = some (.int k b, h) := rfl
theorem frzVal_str (n : Nat) (b : List Nat) (h : AH) : frzVal n (.str b) h = some (.str b, h) := rfl
theorem frzVal_vs (n : Nat) (e : List (List AV)) (t : Tok) (h : AH) : frzVal n (.vs e t) h = some (.vs e .shared, h) := rfl
theorem frzVal_nilp (n : Nat) (h : AH) : frzVal n .nilp h = some (.nilp, h) := rfl
theorem frzVal_nili (n : Nat) (h : AH) : frzVal n .nili h = some (.nili, h) := rfl
theorem frzVal_nilf (n : Nat) (h : AH) : frzVal n .nilf h = some (.nilf, h) := rfl
theorem frzVal_nilm (n : Nat) (h : AH) : frzVal n .nilm h = some (.nilm, h) := rfl
theorem frzVal_ref (n : Nat) (c : List AV) (h : AH) : frzVal n (.ref c) h = some (.ref c, h) := rfl
theorem frzVal_ptr (n i r o : Nat) (h : AH) : frzVal n (.ptr i r o) h = some (.ptr i r o, h) := rfl
theorem frzVal_map (n i : Nat) (h : AH) : frzVal n (.map i) h = some (.map i, h) := rfl
theorem frzVal_iface (n t : Nat) (v : AV) (h : AH) : frzVal n (.iface t v) h = some (.iface t v, h) := rfl
theorem frzVal_fn (n t : Nat) (a b : List AV) (h : AH) : frzVal n (.fn t a b) h = some (.fn t a b, h) := rfl
theorem asResult_one (v : AV) : asResult [v] = v := rfl
theorem asResult_nil : asResult [] = .tup [] := rfl
theorem asResult_two (v w : AV) (r : List AV) : asResult (v :: w :: r) = .tup (v :: w :: r) := rfl

theorem results_nil (fr : Fr) (h : AH) : results fr h [] = some [] := rfl
theorem results_t (fr : Fr) (h : AH) (i : Nat) (r : List RV) : results fr h (.t i :: r) = (results fr h r).map (fget fr i :: ·) := rfl
/-- what lies in a variable -/
def resC (fr : Fr) (h : AH) (v : AV) (agg : Bool) (s : Nat) (r : List RV) : Option (List AV) :=
  match v with
  | .ptr id row off =>
    match h.get id with
    | some (.rows _ rs) => (rs[row]?).bind fun cs => (readAt agg s (cs.drop off)).bind fun v => (results fr h r).map (v :: ·)
    | _ => none
  | _ => none
theorem results_c (fr : Fr) (h : AH) (i : Nat) (agg : Bool) (s : Nat) (r : List RV) : results fr h (.c i agg s :: r) = resC fr h (fget fr i) agg s r := rfl

/-! ### the words of a walk -/
attribute [go_sem] XS_seq XS_reg XS_cond XS_block XS_skip XS_exit XS_ret XS_loop XL_KR KR_some KR_nil KN_nil KN_seq KN_seq_exit KN_seq_ret KN_blk KN_blk_exit KN_blk_ret KN_lp KN_lp_exit KN_lp_ret XB_true XB_false XB_bool XR_nil XV_some XH_some XG_true XG_false XR_guard XS_regd XD_mv XD_val XD_eff XD_valg XD_effg XD_effa XDa_mk XD_nil XDv_some XDe_some XDg_true XDg_false XDh_true XDh_false winOK_nil winOK_cons winAt_mk winV_same ckOf alsRun List.all_cons List.all_nil Bool.and_self Bool.and_true Bool.true_and XR_mvt XR_mvc XR_bin XR_un XR_call XR_o_pick XR_o_alloc XR_o_boxv XR_o_boxm XR_o_build XR_o_bslice XR_o_bslicem XR_o_load XR_o_store XR_o_nilck XR_o_conv XR_o_mkI XR_o_mkF XR_o_mkMap XR_o_mkSlice XR_o_mkSlicev XR_o_slc XR_o_slcs XR_o_fa XR_o_fld XR_o_ixa XR_o_ixarr XR_o_ix XR_o_ixagg XR_o_lookup XR_o_mapset XR_o_tassert XR_o_extr XR_o_callv XR_o_lens XR_o_lenv XR_o_lenm XR_o_imin XR_o_append XR_o_appendm XR_o_copy XR_o_unreach opRun opWanted Opd.ev evL fget keepFr List.map_cons List.map_nil putFr binOpA intOp unOpA isNil eqRes eq_self or_self Option.map_some Option.map_none Option.bind_some Option.bind_none Bool.false_eq_true decide_true decide_false not_true_eq_false beq_self_eq_true b_ft b_tf Bool.not_true Bool.not_false if_true if_false AH.push_ext AH.next_ext' AH.get_ext AH.get_ext_old AH.set_ext AH.set_ext_old AH.drop_ext AH.drop_ext_old AH.note_ext AH.note_nil AH.get_set AH.set_set AH.len_set AH.len_drop AH.len_ext AH.ok_set AH.ok_drop AH.ok_ext0 List.cons_append List.nil_append List.append_nil List.append_assoc List.length_append app_get0 app_getk app_set0 app_setk List.getElem?_cons_zero List.getElem?_cons_succ List.set_cons_zero List.set_cons_succ Option.join_some List.length_cons List.length_nil Nat.zero_add List.drop_succ_cons List.drop_zero List.take_succ_cons List.take_zero List.drop_nil readAt splice splices cellsOf stripL AV.strip pureL AV.pure refsL AV.refs List.filter_nil Nat.le_refl List.head?_cons List.mapM_cons List.mapM_nil Option.pure_def Option.bind_eq_bind List.foldl_cons List.foldl_nil List.replicate_succ List.replicate_zero and_self true_and and_true FIN_ret FIN_norm results_nil results_t results_c resC frzCell_bool frzCell_int frzCell_str frzCell_vs frzCell_nilp frzCell_nili frzCell_nilf frzCell_nilm frzCell_ref frzCell_ptr frzCell_map frzCell_iface frzCell_fn frzCells_nil frzCells_cons frzVals_nil frzVals_cons frzVal_agg frzVal_bool frzVal_int frzVal_str frzVal_vs frzVal_nilp frzVal_nili frzVal_nilf frzVal_nilm frzVal_ref frzVal_ptr frzVal_map frzVal_iface frzVal_fn asResult_one asResult_nil asResult_two AH.leave_none AH.leave_old List.not_mem_nil false_imp_iff implies_true List.forall_mem_cons Nat.le_add_right not_false_eq_true
end Go.Proofs.YtfahpmlckobpmaaGreatDoor.Pi
/-
  Small laws for walks: numbers that fit, slices that grow.
-/
namespace Go.Proofs.YtfahpmlckobpmaaGreatDoor.Pi
open Go

theorem w64 {n : Int} (h1 : -9223372036854775808 ≤ n) (h2 : n ≤ 9223372036854775807) : IntKind.i64.wrap n = n := by
  simp [IntKind.wrap, IntKind.bits, IntKind.signed]; omega
theorem w64s {n : Int} (h1 : -1000000000000 ≤ n) (h2 : n ≤ 1000000000000) : IntKind.i64.wrap n = n := w64 (by omega) (by omega)
theorem w64_lo (n : Int) : -9223372036854775808 ≤ IntKind.i64.wrap n ∧ IntKind.i64.wrap n ≤ 9223372036854775807 := by
  simp [IntKind.wrap, IntKind.bits, IntKind.signed]; omega
theorem w32 {n : Int} (h1 : -2147483648 ≤ n) (h2 : n ≤ 2147483647) : IntKind.i32.wrap n = n := by
  simp [IntKind.wrap, IntKind.bits, IntKind.signed]; omega

def I64 (n : Int) : Prop := -9223372036854775808 ≤ n ∧ n ≤ 9223372036854775807

/-- a token that may grow: of a slice with n elements of z cells, its block among those from the k-th on behind N -/
def GT (N k : Nat) (l : List (Option ABlk)) (t : Tok) (z n : Nat) : Prop :=
  t = .exact ∨ ∃ j, k ≤ j ∧ t = .grow (N + j) 0 ∧ l[j]? = some (some (.grow z n))

theorem GT_exact (N k : Nat) (l : List (Option ABlk)) (z n : Nat) : GT N k l .exact z n := .inl rfl

theorem GT.mono {N k : Nat} {l l' : List (Option ABlk)} {t : Tok} {z n : Nat} (h : GT N k l t z n) (hl : ∀ j b, k ≤ j → l[j]? = some b → l'[j]? = some b) : GT N k l' t z n := by
  rcases h with rfl | ⟨j, h1, h2, h3⟩
  · exact .inl rfl
  · exact .inr ⟨j, h1, h2, hl j _ h1 h3⟩
/-- with one block more -/
theorem GT.snoc {N k : Nat} {l : List (Option ABlk)} {t : Tok} {z n : Nat} (h : GT N k l t z n) (r : List (Option ABlk)) : GT N k (l ++ r) t z n :=
  h.mono fun j b _ hb => by rw [List.getElem?_append_left (List.getElem?_eq_some_iff.1 hb).1]; exact hb
/-- with another block ahead -/
theorem GT.cons1 {N : Nat} {a b : Option ABlk} {l : List (Option ABlk)} {t : Tok} {z n : Nat} (h : GT N 1 (a :: l) t z n) : GT N 1 (b :: l) t z n :=
  h.mono fun j x hj hx => by
    obtain ⟨i, rfl⟩ : ∃ i, j = i + 1 := ⟨j - 1, by omega⟩
    simpa using hx
theorem GT.cons2 {N : Nat} {a b c d : Option ABlk} {l : List (Option ABlk)} {t : Tok} {z n : Nat} (h : GT N 2 (a :: b :: l) t z n) : GT N 2 (c :: d :: l) t z n :=
  h.mono fun j x hj hx => by
    obtain ⟨i, rfl⟩ : ∃ i, j = i + 2 := ⟨j - 2, by omega⟩
    simpa using hx

theorem elemsOf_vs (h : AH) (e : List (List AV)) (t : Tok) : elemsOf h (.vs e t) = some e := rfl

/-- some elements more -/
theorem append_pre {h : AH} {N : Nat} (hN : h.len = N) (k : Nat) {l : List (Option ABlk)} (e : List (Nat × Nat)) {E n : List (List AV)} {t : Tok} {z : Nat} {y : AV} (hk : k ≤ l.length) (ht : GT N k l t z E.length)
    (hy : elemsOf (h.ext l e) y = some n) (hn : n ≠ []) (hE : ∀ r ∈ E, r.length = z) (hp : (n.map stripL).all (fun r => pureL r && (r.length == z)) = true) (hl : E.length + n.length ≤ maxLenA) :
    ∃ l', appendA z (h.ext l e) (.vs E t) y = some (.vs (E ++ n.map stripL) (.grow (N + l.length) 0), h.ext l' e) ∧ l'.take k = l.take k ∧ l'.length = l.length + 1 ∧
      GT N k l' (.grow (N + l.length) 0) z (E ++ n.map stripL).length := by
  have hE' : E.all (fun r => r.length == z) = true := List.all_eq_true.2 fun r hr => by simp [hE r hr]
  have hne : (n.map stripL).isEmpty = false := by cases n <;> simp_all
  have hlen : E.length + (n.map stripL).length ≤ maxLenA := by simpa using hl
  rcases ht with rfl | ⟨j, hj, rfl, hg⟩
  · refine ⟨l ++ [some (.grow z (E.length + (n.map stripL).length))], ?_, ?_, by simp, .inr ⟨l.length, hk, rfl, by simp⟩⟩
    · simp only [appendA, hy, Option.bind_some, hne, Bool.false_eq_true, if_false, hlen, hp, hE', and_self, if_true, AH.next_ext hN, AH.push_ext]
    · rw [List.take_append_of_le_length hk]
  · have hjl : j < l.length := (List.getElem?_eq_some_iff.1 hg).1
    refine ⟨l.set j none ++ [some (.grow z (E.length + (n.map stripL).length))], ?_, ?_, by simp, .inr ⟨l.length, hk, rfl, by simp⟩⟩
    · simp only [appendA, hy, Option.bind_some, hne, Bool.false_eq_true, if_false, hlen, hp, hE', and_self, if_true, AH.get_ext hN, hg, Option.join_some, Nat.zero_add, AH.drop_ext hN, AH.next_ext hN, AH.push_ext, List.length_set]
    · rw [List.take_append_of_le_length (by simpa using hk), List.take_set_of_le hj]

/-- the blocks ahead stay -/
theorem take_one {a : Option ABlk} {l l' : List (Option ABlk)} (h : l'.take 1 = (a :: l).take 1) : ∃ r, l' = a :: r := by
  cases l' with
  | nil => simp at h
  | cons x r => simp at h; exact ⟨r, by rw [h]⟩
theorem take_two {a b : Option ABlk} {l l' : List (Option ABlk)} (h : l'.take 2 = (a :: b :: l).take 2) : ∃ r, l' = a :: b :: r := by
  match l' with
  | [] => simp at h
  | [x] => simp at h
  | x :: y :: r => simp at h; exact ⟨r, by rw [h.1, h.2]⟩
theorem take_three {a b c : Option ABlk} {l l' : List (Option ABlk)} (h : l'.take 3 = (a :: b :: c :: l).take 3) : ∃ r, l' = a :: b :: c :: r := by
  match l' with
  | [] => simp at h
  | [x] => simp at h
  | [x, y] => simp at h
  | x :: y :: z :: r => simp at h; exact ⟨r, by rw [h.1, h.2.1, h.2.2]⟩

/-- what was noted since: of blocks of the call's own -/
def EOK (N : Nat) (l : List (Option ABlk)) (e : List (Nat × Nat)) : Prop := ∀ x ∈ e, N ≤ x.1 ∧ x.1 < x.2 ∧ x.2 < N + l.length
theorem EOK.nil (N : Nat) (l : List (Option ABlk)) : EOK N l [] := fun x hx => by cases hx
theorem EOK.note {N : Nat} {l : List (Option ABlk)} {e : List (Nat × Nat)} (h : EOK N l e) {i : Nat} (hi : N ≤ i) {rs : List Nat} (hr : ∀ r ∈ rs, r < N + l.length) : EOK N l ((rs.filter fun r => decide (i < r)).map (fun r => (i, r)) ++ e) := by
  intro x hx
  rcases List.mem_append.1 hx with hx | hx
  · obtain ⟨r, h1, rfl⟩ := List.mem_map.1 hx
    obtain ⟨h2, h3⟩ := List.mem_filter.1 h1
    exact ⟨hi, by simpa using h3, hr r h2⟩
  · exact h x hx
theorem EOK.more {N : Nat} {l l' : List (Option ABlk)} {e : List (Nat × Nat)} (h : EOK N l e) (hl : l.length ≤ l'.length) : EOK N l' e := fun x hx => by have := h x hx; omega
theorem EOK.le {N : Nat} {l : List (Option ABlk)} {e : List (Nat × Nat)} (h : EOK N l e) : ∀ x ∈ e, N ≤ x.1 := fun x hx => (h x hx).1
theorem EOK.ok {h : AH} (hk : h.ok) {N : Nat} (hN : h.len = N) {l : List (Option ABlk)} {e : List (Nat × Nat)} (he : EOK N l e) : (h.ext l e).ok := AH.ok_ext hk fun x hx => by have := he x hx; rw [hN]; omega
theorem GT_lt {N k : Nat} {l : List (Option ABlk)} {t : Tok} {z n : Nat} (h : GT N k l t z n) (E : List (List AV)) : ∀ r ∈ (AV.vs E t).refs, r < N + l.length := by
  rcases h with rfl | ⟨j, h1, rfl, h3⟩
  · intro r hr; simp [AV.refs] at hr
  · intro r hr
    have := (List.getElem?_eq_some_iff.1 h3).1
    simp [AV.refs] at hr; omega

/-! ### parts of texts -/
theorem sliceS_lo {s : List Nat} {n : Nat} (hn : n ≤ s.length) : sliceS (.str s) (some (.int .i64 (n : Int))) none = some (.str (s.drop n)) := by
  simp only [sliceS, boundA, Option.bind_some]
  rw [if_pos (by omega)]
  simp only [Option.bind_some, Int.toNat_natCast]
  rw [List.take_of_length_le (by simp)]
theorem sliceS_hi {s : List Nat} {n : Nat} (hn : n ≤ s.length) : sliceS (.str s) none (some (.int .i64 (n : Int))) = some (.str (s.take n)) := by
  simp only [sliceS, boundA, Option.bind_some]
  rw [if_pos (by omega)]
  simp only [Option.bind_some, Int.toNat_natCast, List.drop_zero, Nat.sub_zero]
theorem sliceS_lohi {s : List Nat} {a b : Nat} (hab : a ≤ b) (hn : b ≤ s.length) : sliceS (.str s) (some (.int .i64 (a : Int))) (some (.int .i64 (b : Int))) = some (.str ((s.drop a).take (b - a))) := by
  simp only [sliceS, boundA, Option.bind_some]
  rw [if_pos (by omega)]
  simp only [Option.bind_some, Int.toNat_natCast]
  rw [if_pos (by omega)]
  simp only [Option.bind_some, Int.toNat_natCast]
theorem get_some {α : Type} {l : List α} {i : Nat} (hi : i < l.length) : l[i]? = some l[i] := List.getElem?_eq_getElem hi
end Go.Proofs.YtfahpmlckobpmaaGreatDoor.Pi
