/-
  One operation of the abstract run against one of the model's.
-/
import Derived.Test.YtfahpmlckobpmaaGreatDoorPiD
import Derived.Calls
set_option linter.unusedSimpArgs false
set_option linter.unusedVariables false
set_option linter.unusedSectionVars false
namespace Go.Proofs.YtfahpmlckobpmaaGreatDoor.Pi
open Go

section
variable {P : Program} {g : G} {h : AH} {W : World}

/-- what a call comes to -/
def NextOK (P : Program) (K : Value → World → Prop) : Result Next → Prop
  | .ok (.value v) w' => K v w'
  | .ok (.enter f args) w' => Calls P f args w' fun
      | .returned v, w'' => K v w''
      | _, _ => False
  | _ => False

theorem NextOK.mono {P : Program} {K K' : Value → World → Prop} (hk : ∀ v w, K v w → K' v w) {r : Result Next} (h : NextOK P K r) : NextOK P K' r := by
  cases r with
  | ok n w => cases n <;> first | exact hk _ _ h | exact Calls.mono h (fun e w he => by cases e <;> first | exact hk _ _ he | exact he) | exact h
  | halt x w => exact h

def ArgsR (g : G) (W : World) (V : Nat → Nat → Prop) (as : List AV) (vs : Array Value) : Prop :=
  as.length = vs.size ∧ ∀ (i : Nat) (av : AV) (v : Value), as[i]? = some av → vs[i]? = some v → VRel g W V av v

theorem ArgsR.append {V : Nat → Nat → Prop} {as bs : List AV} {vs us : Array Value} (ha : ArgsR g W V as vs) (hb : ArgsR g W V bs us) : ArgsR g W V (as ++ bs) (vs ++ us) := by
  refine ⟨by simp [ha.1, hb.1], fun i av v h1 h2 => ?_⟩
  rw [List.getElem?_append] at h1
  rw [Array.getElem?_append] at h2
  rw [ha.1] at h1
  split at h1
  · rename_i hlt; simp only [hlt, if_true] at h2; exact ha.2 i av v h1 h2
  · rename_i hlt; simp only [hlt, if_false] at h2; exact hb.2 _ av v h1 h2

/-- the abstract calls are the model's -/
def CallS (P : Program) (call : CallF) : Prop :=
  ∀ (f : Nat) (as : List AV) (g : G) (h : AH) (W : World) (v : AV) (h' : AH) (vs : Array Value), call f as h = some (v, h') → HRel g h W → ArgsR g W (U g h) as vs →
    NextOK P (fun x w' => ∃ g', HRel g' h' w' ∧ Ext g h W g' h' w' ∧ VRel g' w' (U g' h') v x) ((callFunc f vs).run P W)

def optOK : Option Opd → Option Operand → Bool
  | none, none => true
  | some x, some y => chkOpd x y
  | _, _ => false

def argsOK (xs : List Opd) (os : List Operand) : Bool := (xs.length == os.length) && (xs.zip os).all fun p => chkOpd p.1 p.2

theorem optR {fr : Fr} {a : Act} (r : FRel g h W fr a.tmps) {x : Option Opd} {o : Option Operand} (hc : optOK x o = true) : OptR g W (U g h) (x.map (Opd.ev fr)) (o.map a.eval) := by
  cases x <;> cases o <;> first | trivial | cases hc | exact chkOpd_rel r hc

theorem argsR {fr : Fr} {a : Act} (r : FRel g h W fr a.tmps) {xs : List Opd} {os : Array Operand} (hc : argsOK xs os.toList = true) : ArgsR g W (U g h) (evL fr xs) (os.map a.eval) := by
  simp only [argsOK, Bool.and_eq_true, beq_iff_eq] at hc
  obtain ⟨h1, h2⟩ := evs_rel r hc.1 hc.2
  exact ⟨by simpa using h1, fun i av v hi hj => h2 i av v hi (by
    rw [Array.getElem?_map] at hj
    rw [List.getElem?_map, Array.getElem?_toList]; exact hj)⟩

/-- where the parts of a struct or of a row go -/
def partsOK (P : Program) (t : TypeId) (ps : List (Nat × Nat × Opd)) (os : List (Nat × Operand)) : Bool :=
  (ps.length == os.length) && (ps.zip os).all fun p => chkOpd p.1.2.2 p.2.2 && (match placeOf P t p.2.1 with | some q => (q.1 == p.1.1) && (q.2 == p.1.2.1) | none => false)
def rowOK (len : Nat) (ps : List (Nat × Opd)) (os : List (Nat × Operand)) : Bool :=
  (ps.length == os.length) && (ps.zip os).all fun p => chkOpd p.1.2 p.2.2 && (p.1.1 == p.2.1) && decide (p.1.1 < len)

def calleeOK (P : Program) : AOp → Op → Bool
  | .call f xs, .call ⟨.value (.func k), as, _⟩ => (f == k) && argsOK xs as.toList
  | .callv x xs, .call ⟨.value y, as, _⟩ => chkOpd x y && argsOK xs as.toList
  | .lens x, .call ⟨.builtin .len, as, ts⟩ => (match as.toList, ts.toList with | [y], [t] => chkOpd x y && isString P t | _, _ => false)
  | .lenv x, .call ⟨.builtin .len, as, ts⟩ => (match as.toList, ts.toList with | [y], [t] => chkOpd x y && isSliceT P t | _, _ => false)
  | .lenm x, .call ⟨.builtin .len, as, ts⟩ => (match as.toList, ts.toList with | [y], [t] => chkOpd x y && isMapT P t | _, _ => false)
  | .imin x y, .call ⟨.builtin .min, as, _⟩ => (match as.toList with | [a, b] => chkOpd x a && chkOpd y b | _ => false)
  | .append z x y, .call ⟨.builtin .append, as, ts⟩ => (match as.toList, ts.toList with | [a, b], [s, t] => chkOpd x a && chkOpd y b && appOK P s t z | _, _ => false)
  | .appendm z x y, .call ⟨.builtin .append, as, ts⟩ => (match as.toList, ts.toList with | [a, b], [s, t] => chkOpd x a && chkOpd y b && appOK P s t z | _, _ => false)
  | _, _ => false

def chkOp (P : Program) : AOp → Op → Bool
  | .unreach, _ => true
  | .mv x, .move y => chkOpd x y
  | .mv x, .assign y => chkOpd x y
  | .pick c a b, .pick c' a' b' => chkOpd c c' && chkOpd a a' && chkOpd b b'
  | .alloc z, .alloc t => zeroOK P t z
  | .boxv x, .box _ y => chkOpd x y
  | .boxm x, .box _ y => chkOpd x y
  | .build z ps, .build t os => zeroOK P t z && fieldsOK P t && partsOK P t ps os.toList
  | .bslice z n ps, .buildSlice t m os => (match P.underlying t with | some (.slice e) => zeroOK P e z && (n == m) && decide (n * z.length ≤ 16777216) && rowOK n ps os.toList | _ => false)
  | .bslicem z n ps, .buildSlice t m os => (match P.underlying t with | some (.slice e) => zeroOK P e z && (n == m) && decide (n * z.length ≤ 16777216) && rowOK n ps os.toList | _ => false)
  | .load agg s x, .load t y => aggOK P t agg && sizeOK P t s && chkOpd x y
  | .store s a x, .store t b y => sizeOK P t s && chkOpd a b && chkOpd x y
  | .nilck x, .nilCheck y => chkOpd x y
  | .bin kd op x y, .binOp op' t a b _ => decide (op = op') && eqTypeOK P t kd a b && chkOpd x a && chkOpd y b
  | .un op x, .unOp op' _ y => decide (op = op') && chkOpd x y
  | .conv k x, .convert s d y => convOK P s d k && chkOpd x y
  | .mkI t x, .makeInterface t' y => (t == t') && P.concrete t && chkOpd x y
  | .mkF f a b, .makeFunc (.func k) x y => (f == k) && argsOK a x.toList && argsOK b y.toList
  | .mkMap, .makeMap _ none => true
  | .mkSlice z l c, .makeSlice t l' c' => mkSliceOK P t z && chkOpd l l' && chkOpd c c'
  | .mkSlicev z c, .makeSlice t (.const (.int _ 0)) c' => mkSliceOK P t z && chkOpd c c'
  | .slc s x lo hi mx, .slice t y lo' hi' mx' => sliceOK P t s && chkOpd x y && optOK lo lo' && optOK hi hi' && optOK mx mx' && (hi.isSome || mx.isNone)
  | .slcs x lo hi, .slice t y lo' hi' none => isString P t && chkOpd x y && optOK lo lo' && optOK hi hi'
  | .fa off x, .fieldAddr t y f => chkOpd x y && (match P.underlying t with
      | some (.struct fs) => (match fs[f]? with | some fd => (match P.info? fd.type with | some i => decide (0 < i.size) && (fieldOK P t f off i.size true || fieldOK P t f off i.size false) | none => false) | none => false)
      | _ => false)
  | .fld agg off s x, .field t y f => fieldOK P t f off s agg && chkOpd x y
  | .ixa s x i, .indexAddr t y j => sliceOK P t s && chkOpd x y && chkOpd i j
  | .ixarr len s x i, .indexAddr t y j => (arrayOK P t len s true || arrayOK P t len s false) && chkOpd x y && chkOpd i j
  | .ix x i, .index t y j => isString P t && chkOpd x y && chkOpd i j
  | .ixagg agg len s x i, .index t y j => arrayOK P t len s agg && chkOpd x y && chkOpd i j
  | .lookup kk ok z x k, .lookup t y k' ok' => mapT P kk t && mapZ P t z && chkOpd x y && chkOpd k k' && (ok == ok')
  | .mapset kk m k v, .mapUpdate t m' k' v' => mapT P kk t && chkOpd m m' && chkOpd k k' && chkOpd v v'
  | .mapset kk m k v, .insert t m' k' v' => mapT P kk t && chkOpd m m' && chkOpd k k' && chkOpd v v'
  | .extr x i, .extract y j => chkOpd x y && (i == j)
  | a, o => calleeOK P a o

/-- an operation's own law -/
def OpS (P : Program) (o : Oper) (a : Act) (g : G) (h : AH) (W : World) (v : AV) (h' : AH) : Prop :=
  ∀ (next : Act → World → Prop) (Q : Exit → Act → World → Prop),
    (∀ x g' W', HRel g' h' W' → Ext g h W g' h' W' → VRel g' W' (U g' h') v x → next (a.put o.dst x) W') → o.wp P a W next Q

theorem OpS.ofV {o : Oper} {a : Act} {v : AV} {h' : AH} {s : Sem Value} (he : execOp a.eval o = (do pure (.value (← s)))) (hv : VRes P s g h W v h') : OpS P o a g h W v h' := by
  obtain ⟨x, w', g', h1, h2, h3, h4⟩ := hv
  intro next Q k
  unfold Oper.wp
  rw [he, Sem.run_bind, h1]
  exact k x g' w' h2 h3 h4

theorem OpS.ofU {o : Oper} {a : Act} {h' : AH} {s : Sem Unit} (he : execOp a.eval o = (do s; pure .skip)) {w' : World} (h1 : s.run P W = .ok () w') {g' : G} (h2 : HRel g' h' w') (h3 : Ext g h W g' h' w') : OpS P o a g h W .any h' := by
  intro next Q k
  unfold Oper.wp
  rw [he, Sem.run_bind, h1]
  exact k undef g' w' h2 h3 (.any _)

theorem OpS.val {o : Oper} {a : Act} {v : AV} {x : Value} (he : (execOp a.eval o).run P W = .ok (.value x) W) (hr : HRel g h W) (hv : VRel g W (U g h) v x) : OpS P o a g h W v h := by
  intro next Q k
  unfold Oper.wp
  rw [he]
  exact k x g W hr (Ext.refl _ _ _) hv

theorem OpS.ofNext {o : Oper} {a : Act} {v : AV} {h' : AH} {s : Sem Next} (he : execOp a.eval o = s) (hn : NextOK P (fun x w' => ∃ g', HRel g' h' w' ∧ Ext g h W g' h' w' ∧ VRel g' w' (U g' h') v x) (s.run P W)) : OpS P o a g h W v h' := by
  intro next Q k
  unfold Oper.wp
  rw [he]
  generalize s.run P W = r at hn
  cases r with
  | ok n w =>
    cases n with
    | value x => obtain ⟨g', h1, h2, h3⟩ := hn; exact k x g' w h1 h2 h3
    | enter f args =>
      refine Calls.mono hn fun e w' hq => ?_
      cases e with
      | returned x => obtain ⟨g', h1, h2, h3⟩ := hq; exact k x g' w' h1 h2 h3
      | panicked c => exact hq.elim
      | outgrown => exact hq.elim
    | _ => exact hn.elim
  | halt x w => exact hn.elim

end
end Go.Proofs.YtfahpmlckobpmaaGreatDoor.Pi
/-
  Every operation's law.
-/
namespace Go.Proofs.YtfahpmlckobpmaaGreatDoor.Pi
open Go

section
variable {P : Program} {g : G} {h : AH} {W : World}

theorem mapM_some {α β : Type} {f : α → Option β} : ∀ {l : List α} {r : List β}, l.mapM f = some r → F2 (fun a b => f a = some b) l r
  | [], r, h => by simp at h; subst h; exact .nil
  | a :: l, r, h => by
    rw [List.mapM_cons] at h
    cases hf : f a with
    | none => simp [hf] at h
    | some b =>
      cases hl : l.mapM f with
      | none => simp [hf, hl] at h
      | some bs => simp [hf, hl] at h; subst h; exact .cons hf (mapM_some hl)

theorem F2.zip {α β γ : Type} {R : α → γ → Prop} {S : β → γ → Prop} {T : α × β → Bool} (f : ∀ a b c, R a c → T (a, b) = true → S b c) : ∀ {l : List α} {n : List γ}, F2 R l n → ∀ {m : List β}, l.length = m.length → ((l.zip m).all T) = true → F2 S m n := by
  intro l n hf
  induction hf with
  | nil =>
    intro m hl _
    cases m with
    | nil => exact .nil
    | cons b m => simp at hl
  | cons h hs ih =>
    intro m hl hz
    cases m with
    | nil => simp at hl
    | cons b m =>
      simp only [List.zip_cons_cons, List.all_cons, Bool.and_eq_true] at hz
      exact .cons (f _ _ _ h hz.1) (ih (by simpa using hl) hz.2)

theorem F2.mapL {α β γ : Type} {R : β → γ → Prop} {f : α → β} {l : List α} {m : List γ} (h : F2 (fun a c => R (f a) c) l m) : F2 R (l.map f) m := by
  induction h with
  | nil => exact .nil
  | cons h _ ih => exact .cons h ih

theorem layA_strip {V : Nat → Nat → Prop} {cs : List AV} {c : Array Value} (hl : LayA g W V cs c) : LayA g W V (stripL cs) c := by
  obtain ⟨h1, h2, h3⟩ := hl
  refine ⟨fun av hm => ?_, by simpa [stripL] using h2, fun i av x hi hj => ?_⟩
  · obtain ⟨b, hb, rfl⟩ := List.mem_map.1 hm
    exact strip_cell (h1 b hb)
  · simp only [stripL, List.getElem?_map] at hi
    cases hcs : cs[i]? with
    | none => simp [hcs] at hi
    | some b => simp [hcs] at hi; subst hi; exact (h3 i b x hcs hj).strip

theorem parts_rel {fr : Fr} {a : Act} (r : FRel g h W fr a.tmps) {t : TypeId} {ps : List (Nat × Nat × Opd)} {os : List (Nat × Operand)} (hc : partsOK P t ps os = true) {qs : List (Nat × List AV)}
    (hm : (ps.mapM fun (p : Nat × Nat × Opd) => (cellsOf (p.2.2.ev fr)).bind fun cs => if cs.length = p.2.1 then some (p.1, cs) else none) = some qs) :
    F2 (fun (p : Nat × Value) (q : Nat × List AV) => placeOf P t p.1 = some (q.1, q.2.length) ∧ LayA g W (U g h) q.2 p.2.cells) (os.map fun p => (p.1, a.eval p.2)) qs := by
  simp only [partsOK, Bool.and_eq_true, beq_iff_eq] at hc
  refine F2.mapL (F2.zip (S := fun (p : Nat × Operand) (q : Nat × List AV) => placeOf P t p.1 = some (q.1, q.2.length) ∧ LayA g W (U g h) q.2 (a.eval p.2).cells) (fun p o q h1 h2 => ?_) (mapM_some hm) hc.1 hc.2)
  simp only [Bool.and_eq_true] at h2
  obtain ⟨h2, h3⟩ := h2
  cases hcs : cellsOf (p.2.2.ev fr) with
  | none => simp [hcs] at h1
  | some cs =>
    simp only [hcs, Option.bind_some] at h1
    split at h1
    · rename_i hl
      simp at h1; subst h1
      split at h3
      · rename_i q hq
        simp only [Bool.and_eq_true, beq_iff_eq] at h3
        exact ⟨by rw [hq, ← h3.1, hl, ← h3.2], LayA.of (chkOpd_rel r h2) hcs⟩
      · cases h3
    · cases h1

theorem row_rel {fr : Fr} {a : Act} (r : FRel g h W fr a.tmps) {z len : Nat} {ps : List (Nat × Opd)} {os : List (Nat × Operand)} (hc : rowOK len ps os = true) (st : Bool) {qs : List (Nat × List AV)}
    (hm : (ps.mapM fun (p : Nat × Opd) => (cellsOf (p.2.ev fr)).bind fun cs => if cs.length = z then some (p.1, if st then stripL cs else cs) else none) = some qs) :
    F2 (fun (p : Nat × Value) (q : Nat × List AV) => p.1 = q.1 ∧ q.2.length = z ∧ p.1 < len ∧ LayA g W (U g h) q.2 p.2.cells) (os.map fun p => (p.1, a.eval p.2)) qs := by
  simp only [rowOK, Bool.and_eq_true, beq_iff_eq] at hc
  refine F2.mapL (F2.zip (S := fun (p : Nat × Operand) (q : Nat × List AV) => p.1 = q.1 ∧ q.2.length = z ∧ p.1 < len ∧ LayA g W (U g h) q.2 (a.eval p.2).cells) (fun p o q h1 h2 => ?_) (mapM_some hm) hc.1 hc.2)
  simp only [Bool.and_eq_true, beq_iff_eq, decide_eq_true_eq] at h2
  obtain ⟨⟨h2, h3⟩, h4⟩ := h2
  cases hcs : cellsOf (p.2.ev fr) with
  | none => simp [hcs] at h1
  | some cs =>
    simp only [hcs, Option.bind_some] at h1
    split at h1
    · rename_i hl
      simp at h1; subst h1
      have hL := LayA.of (chkOpd_rel r h2) hcs
      refine ⟨h3.symm, ?_, by rw [← h3]; exact h4, ?_⟩
      · cases st <;> simp [stripL, hl]
      · cases st
        · exact hL
        · exact layA_strip hL
    · cases h1

theorem map_toArray {α β : Type} (f : α → β) (a : Array α) : a.map f = (a.toList.map f).toArray := by
  apply Array.toList_inj.1; simp

/-- the callee's law -/
theorem call_sound {call : CallF} (hcall : CallS P call) (hr : HRel g h W) {fr : Fr} {a : Act} (r : FRel g h W fr a.tmps) {o : Oper} {x : AOp} (hc : calleeOK P x o.op = true) {v : AV} {h' : AH} (hx : opRun call x fr h = some (v, h')) : OpS P o a g h W v h' := by
  unfold calleeOK at hc
  split at hc
  · rename_i f xs k as ts hop
    simp only [Bool.and_eq_true, beq_iff_eq] at hc
    obtain ⟨rfl, hc⟩ := hc
    have := hcall _ _ _ _ _ _ _ _ hx hr (argsR r hc)
    refine OpS.ofNext (s := callFunc f (as.map a.eval)) ?_ this
    simp [execOp, hop, resolve, Act.eval, Deferred.ofValue, invoke]
  · rename_i x xs y as ts hop
    simp only [Bool.and_eq_true] at hc
    simp only [opRun] at hx
    split at hx
    · rename_i k fst cap hf
      have hv := chkOpd_rel r hc.1
      rw [hf] at hv
      obtain ⟨u, w, hval, h1, h2, h3, h4⟩ := inv_fn hv
      have := hcall _ _ _ _ _ _ _ (u ++ as.map a.eval ++ w) hx hr (((ArgsR.append ⟨h1, h3⟩ (argsR r hc.2))).append ⟨h2, h4⟩)
      refine OpS.ofNext (s := callFunc k (u ++ as.map a.eval ++ w)) ?_ this
      simp [execOp, hop, resolve, hval, Deferred.ofValue, invoke]
    · cases hx
  · rename_i x as ts hop
    split at hc
    · rename_i y t h1 h2
      simp only [Bool.and_eq_true] at hc
      obtain rfl : as = #[y] := Array.toList_inj.1 (by rw [h1])
      obtain rfl : ts = #[t] := Array.toList_inj.1 (by rw [h2])
      simp only [opRun] at hx
      split at hx
      · rename_i s hs
        simp at hx; obtain ⟨rfl, rfl⟩ := hx
        have hv := chkOpd_rel r hc.1
        rw [hs] at hv
        exact OpS.ofV (s := Builtin.len_ #[t] o.type #[a.eval y]) (by simp [execOp, hop, resolve, invoke, builtin]) (lens_sound hr hc.2 hv)
      · cases hx
    · cases hc
  · rename_i x as ts hop
    split at hc
    · rename_i y t h1 h2
      simp only [Bool.and_eq_true] at hc
      obtain rfl : as = #[y] := Array.toList_inj.1 (by rw [h1])
      obtain rfl : ts = #[t] := Array.toList_inj.1 (by rw [h2])
      simp only [opRun] at hx
      have hv := chkOpd_rel r hc.1
      split at hx
      · rename_i e tk hs
        simp at hx; obtain ⟨rfl, rfl⟩ := hx
        rw [hs] at hv
        exact OpS.ofV (s := Builtin.len_ #[t] o.type #[a.eval y]) (by simp [execOp, hop, resolve, invoke, builtin]) (lenv_sound hr hc.2 hv rfl)
      · rename_i hs
        simp at hx; obtain ⟨rfl, rfl⟩ := hx
        rw [hs] at hv
        exact OpS.ofV (s := Builtin.len_ #[t] o.type #[a.eval y]) (by simp [execOp, hop, resolve, invoke, builtin]) (lenv_sound hr hc.2 hv rfl)
      · cases hx
    · cases hc
  · rename_i x as ts hop
    split at hc
    · rename_i y t h1 h2
      simp only [Bool.and_eq_true] at hc
      obtain rfl : as = #[y] := Array.toList_inj.1 (by rw [h1])
      obtain rfl : ts = #[t] := Array.toList_inj.1 (by rw [h2])
      simp only [opRun] at hx
      have hv := chkOpd_rel r hc.1
      split at hx
      · rename_i hs
        simp at hx; obtain ⟨rfl, rfl⟩ := hx
        rw [hs] at hv
        exact OpS.ofV (s := Builtin.len_ #[t] o.type #[a.eval y]) (by simp [execOp, hop, resolve, invoke, builtin]) (lenm_sound hr hc.2 hv (n := 0) rfl)
      · rename_i id hs
        split at hx
        · rename_i es hg
          simp at hx; obtain ⟨rfl, rfl⟩ := hx
          rw [hs] at hv
          exact OpS.ofV (s := Builtin.len_ #[t] o.type #[a.eval y]) (by simp [execOp, hop, resolve, invoke, builtin]) (lenm_sound hr hc.2 hv (by simp [hg]))
        · cases hx
      · cases hx
    · cases hc
  · rename_i x y as ts hop
    split at hc
    · rename_i b c h1
      simp only [Bool.and_eq_true] at hc
      obtain rfl : as = #[b, c] := Array.toList_inj.1 (by rw [h1])
      simp only [opRun] at hx
      split at hx
      · rename_i k m k' n e1 e2
        simp at hx; obtain ⟨rfl, rfl⟩ := hx
        have hv := chkOpd_rel r hc.1
        have hw := chkOpd_rel r hc.2
        rw [e1] at hv; rw [e2] at hw
        refine OpS.ofV (s := Builtin.min_ ts o.type #[.int k m, .int k' n]) (by simp [execOp, hop, resolve, invoke, builtin, inv_int hv, inv_int hw]) (VRes.same hr (x := .int k (if n < m then n else m)) ?_ (.pure _ _ (.int _ _)))
        simp [Builtin.min_, Builtin.min2]
      · cases hx
    · cases hc
  · rename_i z x y as ts hop
    split at hc
    · rename_i b c s t h1 h2
      simp only [Bool.and_eq_true] at hc
      obtain rfl : as = #[b, c] := Array.toList_inj.1 (by rw [h1])
      obtain rfl : ts = #[s, t] := Array.toList_inj.1 (by rw [h2])
      exact OpS.ofV (s := Builtin.append_ #[s, t] o.type #[a.eval b, a.eval c]) (by simp [execOp, hop, resolve, invoke, builtin]) (append_sound hr hc.2 (chkOpd_rel r hc.1.1) (chkOpd_rel r hc.1.2) hx)
    · cases hc
  · rename_i z x y as ts hop
    split at hc
    · rename_i b c s t h1 h2
      simp only [Bool.and_eq_true] at hc
      obtain rfl : as = #[b, c] := Array.toList_inj.1 (by rw [h1])
      obtain rfl : ts = #[s, t] := Array.toList_inj.1 (by rw [h2])
      exact OpS.ofV (s := Builtin.append_ #[s, t] o.type #[a.eval b, a.eval c]) (by simp [execOp, hop, resolve, invoke, builtin]) (appendm_sound hr hc.2 (chkOpd_rel r hc.1.1) (chkOpd_rel r hc.1.2) hx)
    · cases hc
  · cases hc

end
end Go.Proofs.YtfahpmlckobpmaaGreatDoor.Pi
/-
  Every operation's law: the whole list.
-/
namespace Go.Proofs.YtfahpmlckobpmaaGreatDoor.Pi
open Go

section
variable {P : Program} {g : G} {h : AH} {W : World}

theorem foldl_set_len {α : Type} (ps : List (Nat × α)) : ∀ (l : List α), (ps.foldl (fun e p => e.set p.1 p.2) l).length = l.length := by
  induction ps with
  | nil => intro l; rfl
  | cons p ps ih => intro l; rw [List.foldl_cons, ih]; simp

theorem op_sound {call : CallF} (hcall : CallS P call) (hr : HRel g h W) {fr : Fr} {a : Act} (r : FRel g h W fr a.tmps) {o : Oper} {x : AOp} (hc : chkOp P x o.op = true) {v : AV} {h' : AH} (hx : opRun call x fr h = some (v, h')) : OpS P o a g h W v h' := by
  unfold chkOp at hc
  split at hc
  · simp [opRun] at hx
  · -- mv
    rename_i hop
    simp [opRun] at hx; obtain ⟨rfl, rfl⟩ := hx
    exact OpS.val (by simp only [execOp, hop]; rfl) hr (chkOpd_rel r hc)
  · rename_i hop
    simp [opRun] at hx; obtain ⟨rfl, rfl⟩ := hx
    exact OpS.val (by simp only [execOp, hop]; rfl) hr (chkOpd_rel r hc)
  · -- pick
    rename_i hop
    simp only [Bool.and_eq_true] at hc
    simp only [opRun] at hx
    split at hx
    · rename_i t ht
      simp at hx; obtain ⟨rfl, rfl⟩ := hx
      have hv := chkOpd_rel r hc.1.1
      rw [ht] at hv
      have hb := inv_bool hv
      cases t with
      | true => exact OpS.val (by simp only [execOp, hop, hb]; rfl) hr (chkOpd_rel r hc.1.2)
      | false => exact OpS.val (by simp only [execOp, hop, hb]; rfl) hr (chkOpd_rel r hc.2)
    · cases hx
  · -- alloc
    rename_i z t hop
    simp [opRun] at hx; obtain ⟨rfl, rfl⟩ := hx
    exact OpS.ofV (by simp only [execOp, hop]) (alloc_sound hr hc (.tuple #[]))
  · -- boxv
    rename_i x t y hop
    simp only [opRun] at hx
    obtain ⟨cs, h1, h2⟩ := bind_some_iff.1 hx
    simp at h2; obtain ⟨rfl, rfl⟩ := h2
    exact OpS.ofV (by simp only [execOp, hop]) (boxv_sound hr (t := t) (chkOpd_rel r hc) h1)
  · rename_i x t y hop
    simp only [opRun] at hx
    obtain ⟨cs, h1, h2⟩ := bind_some_iff.1 hx
    simp at h2; obtain ⟨rfl, rfl⟩ := h2
    exact OpS.ofV (by simp only [execOp, hop]) (boxm_sound hr (t := t) (chkOpd_rel r hc) h1)
  · -- build
    rename_i z ps t os hop
    simp only [Bool.and_eq_true] at hc
    simp only [opRun] at hx
    obtain ⟨qs, h1, h2⟩ := bind_some_iff.1 hx
    obtain ⟨cs, h3, h4⟩ := bind_some_iff.1 h2
    simp at h4; obtain ⟨rfl, rfl⟩ := h4
    have := build_sound hr hc.1.1 hc.1.2 (parts_rel r hc.2 h1) h3
    exact OpS.ofV (by simp only [execOp, hop]; rw [map_toArray]) this
  · -- bslice
    rename_i z n ps t m os hop
    split at hc
    · rename_i e hu
      simp only [Bool.and_eq_true, beq_iff_eq, decide_eq_true_eq] at hc
      obtain ⟨⟨⟨hz, rfl⟩, hb⟩, hrow⟩ := hc
      simp only [opRun] at hx
      obtain ⟨qs, h1, h2⟩ := bind_some_iff.1 hx
      split at h2
      · rename_i hp
        simp at h2; obtain ⟨rfl, rfl⟩ := h2
        have hF := row_rel r hrow true (z := z.length) (qs := qs) (by simpa using h1)
        exact OpS.ofV (by simp only [execOp, hop]; rw [map_toArray]) (bslice_sound hr hu hz hb rfl (by rw [foldl_set_len]; simp) hp hF)
      · cases h2
    · cases hc
  · rename_i z n ps t m os hop
    split at hc
    · rename_i e hu
      simp only [Bool.and_eq_true, beq_iff_eq, decide_eq_true_eq] at hc
      obtain ⟨⟨⟨hz, rfl⟩, hb⟩, hrow⟩ := hc
      simp only [opRun] at hx
      obtain ⟨qs, h1, h2⟩ := bind_some_iff.1 hx
      simp at h2; obtain ⟨rfl, rfl⟩ := h2
      have hF := row_rel r hrow false (z := z.length) (qs := qs) (by simpa using h1)
      exact OpS.ofV (by simp only [execOp, hop]; rw [map_toArray]) (bslicem_sound hr hu hz hb hF)
    · cases hc
  · -- load
    rename_i agg s x t y hop
    simp only [Bool.and_eq_true] at hc
    have key : (match (generalizing := false) x.ev fr with
      | .ref cs => readAt agg s cs
      | .ptr id row off =>
        match h.get id with
        | some (.rows _ rs) => (rs[row]?).bind fun cs => readAt agg s (cs.drop off)
        | _ => none
      | _ => none) = some v ∧ h' = h := by
      simp only [opRun] at hx
      split at hx
      · rename_i cs he
        cases hra : readAt agg s cs with
        | none => simp [hra] at hx
        | some q => simp [hra] at hx; simp [he, hra, hx.1, hx.2]
      · rename_i id row off he
        split at hx
        · rename_i zz rs hg
          obtain ⟨cs, h1, h2⟩ := bind_some_iff.1 hx
          cases hra : readAt agg s (cs.drop off) with
          | none => simp [hra] at h2
          | some q => simp [hra] at h2; refine ⟨?_, h2.2.symm⟩; rw [he]; simp [hg, h1, hra, h2.1]
        · cases hx
      · cases hx
    obtain ⟨k1, rfl⟩ := key
    obtain ⟨y1, h1, h2⟩ := load_sound hr hc.1.1 hc.1.2 (chkOpd_rel r hc.2) k1
    exact OpS.ofV (s := Instr.loadAt t (a.eval y)) (by simp only [execOp, hop]) (VRes.same hr h1 h2)
  · -- store
    rename_i s p x t b y hop
    simp only [Bool.and_eq_true] at hc
    simp only [opRun] at hx
    have hp := chkOpd_rel r hc.1.2
    have hv := chkOpd_rel r hc.2
    split at hx
    · rename_i id row off he
      rw [he] at hp
      split at hx
      · rename_i z rs hg
        obtain ⟨cs, h1, h2⟩ := bind_some_iff.1 hx
        obtain ⟨new, h3, h4⟩ := bind_some_iff.1 h2
        split at h4
        · rename_i hn
          obtain ⟨cs', h5, h6⟩ := bind_some_iff.1 h4
          simp at h6; obtain ⟨rfl, rfl⟩ := h6
          obtain ⟨w', k1, k2, k3⟩ := store_sound hr hc.1.1 hp hv hg h1 h3 hn h5
          exact OpS.ofU (by simp only [execOp, hop]) k1 k2 k3
        · cases h4
      · cases hx
    · cases hx
  · -- nilck
    rename_i x y hop
    simp only [opRun] at hx
    have hv := chkOpd_rel r hc
    have key : v = x.ev fr ∧ h' = h ∧ (match (generalizing := false) x.ev fr with | .ref _ | .ptr _ _ _ | .iface _ _ | .fn _ _ _ => true | _ => false) = true := by
      split at hx <;> first | (rename_i he; simp at hx; exact ⟨by rw [he]; exact hx.1.symm, hx.2.symm, by rw [he]⟩) | cases hx
    obtain ⟨rfl, rfl, k⟩ := key
    exact OpS.val (nilck_sound hr hv k o y a.eval hop rfl) hr hv
  · -- bin
    rename_i kd op x y op' t p q o5 hop
    simp only [Bool.and_eq_true, decide_eq_true_eq] at hc
    obtain ⟨⟨⟨h0, h1⟩, h2⟩, h3⟩ := hc
    subst h0
    simp only [opRun] at hx
    cases hb : binOpA kd op (x.ev fr) (y.ev fr) with
    | none => simp [hb] at hx
    | some q =>
      simp [hb] at hx; obtain ⟨rfl, rfl⟩ := hx
      exact OpS.ofV (by simp only [execOp, hop]) (bin_sound hr h1 (chkOpd_rel r h2) (chkOpd_rel r h3) hb)
  · -- un
    rename_i op x op' t y hop
    simp only [Bool.and_eq_true, decide_eq_true_eq] at hc
    obtain ⟨rfl, h1⟩ := hc
    simp only [opRun] at hx
    cases hb : unOpA op (x.ev fr) with
    | none => simp [hb] at hx
    | some q =>
      simp [hb] at hx; obtain ⟨rfl, rfl⟩ := hx
      exact OpS.ofV (by simp only [execOp, hop]) (un_sound hr (chkOpd_rel r h1) hb)
  · -- conv
    rename_i k x s d y hop
    simp only [Bool.and_eq_true] at hc
    simp only [opRun] at hx
    split at hx
    · rename_i l n he
      simp at hx; obtain ⟨rfl, rfl⟩ := hx
      have hv := chkOpd_rel r hc.2
      rw [he] at hv
      exact OpS.ofV (by simp only [execOp, hop]) (conv_sound hr hc.1 hv)
    · cases hx
  · -- mkI
    rename_i t x t' y hop
    simp only [Bool.and_eq_true, beq_iff_eq] at hc
    obtain ⟨⟨rfl, hcc⟩, h1⟩ := hc
    have hv := chkOpd_rel r h1
    have key : v = .iface t (x.ev fr) ∧ h' = h := by
      simp only [opRun] at hx
      split at hx
      · cases hx
      · simp at hx; exact ⟨hx.1.symm, hx.2.symm⟩
    obtain ⟨rfl, rfl⟩ := key
    exact OpS.ofV (by simp only [execOp, hop]) (mkI_sound hr hcc hv)
  · -- mkF
    rename_i f p q k x y hop
    simp only [Bool.and_eq_true, beq_iff_eq] at hc
    obtain ⟨⟨rfl, h1⟩, h2⟩ := hc
    simp [opRun] at hx; obtain ⟨rfl, rfl⟩ := hx
    have hA := argsR r h1
    have hB := argsR r h2
    exact OpS.val (x := .func (.func f) (x.map a.eval) (y.map a.eval)) (by simp only [execOp, hop]; rfl) hr (.fn _ _ _ _ _ hA.1 hB.1 hA.2 hB.2)
  · -- mkMap
    rename_i t hop
    simp [opRun] at hx; obtain ⟨rfl, rfl⟩ := hx
    exact OpS.ofV (s := Instr.makeMap t none) (by simp only [execOp, hop]; rfl) (mkMap_sound hr rfl)
  · -- mkSlice
    rename_i z l c t l' c' hop
    simp only [Bool.and_eq_true] at hc
    simp only [opRun] at hx
    split at hx
    · rename_i k n k' m h1 h2
      split at hx
      · rename_i hb
        simp at hx; obtain ⟨rfl, rfl⟩ := hx
        have hl := chkOpd_rel r hc.1.2
        have hcv := chkOpd_rel r hc.2
        rw [h1] at hl; rw [h2] at hcv
        exact OpS.ofV (s := Instr.makeSlice t (.int k n) (.int k' m)) (by simp only [execOp, hop, inv_int hl, inv_int hcv]) (mkSlice_sound hr hc.1.1 hb.1 hb.2.1 hb.2.2)
      · cases hx
    · cases hx
  · -- mkSlicev
    rename_i z c t k0 c' hop
    simp only [Bool.and_eq_true] at hc
    simp only [opRun] at hx
    split at hx
    · rename_i k m h2
      split at hx
      · rename_i hb
        simp at hx; obtain ⟨rfl, rfl⟩ := hx
        have hcv := chkOpd_rel r hc.2
        rw [h2] at hcv
        exact OpS.ofV (s := Instr.makeSlice t (.int k0 0) (.int k m)) (by simp only [execOp, hop, inv_int hcv]; rfl) (mkSlicev_sound hr hc.1 hb.1 hb.2)
      · cases hx
    · cases hx
  · -- slc
    rename_i s x lo hi mx t y lo' hi' mx' hop
    simp only [Bool.and_eq_true, Bool.or_eq_true, Option.isSome_iff_exists, Option.isNone_iff_eq_none] at hc
    obtain ⟨⟨⟨⟨⟨h1, h2⟩, h3⟩, h4⟩, h5⟩, h6⟩ := hc
    simp only [opRun] at hx
    cases hs : sliceA s h (x.ev fr) (lo.map (Opd.ev fr)) (hi.map (Opd.ev fr)) (mx.map (Opd.ev fr)) with
    | none => simp [hs] at hx
    | some q =>
      simp [hs] at hx; obtain ⟨rfl, rfl⟩ := hx
      exact OpS.ofV (by simp only [execOp, hop]) (slc_sound hr h1 (chkOpd_rel r h2) (optR r h3) (optR r h4) (optR r h5) (fun hn => by
        rcases h6 with ⟨u, hu⟩ | h6
        · rw [hu] at hn; cases hn
        · rw [h6]; rfl) hs)
  · -- slcs
    rename_i x lo hi t y lo' hi' hop
    simp only [Bool.and_eq_true] at hc
    obtain ⟨⟨⟨h1, h2⟩, h3⟩, h4⟩ := hc
    simp only [opRun] at hx
    cases hs : sliceS (x.ev fr) (lo.map (Opd.ev fr)) (hi.map (Opd.ev fr)) with
    | none => simp [hs] at hx
    | some q =>
      simp [hs] at hx; obtain ⟨rfl, rfl⟩ := hx
      exact OpS.ofV (by simp only [execOp, hop]; rfl) (slcs_sound hr h1 (chkOpd_rel r h2) (optR r h3) (optR r h4) hs)
  · -- fa
    rename_i off x t y f hop
    simp only [Bool.and_eq_true] at hc
    obtain ⟨h1, hc⟩ := hc
    split at hc
    · rename_i fs hu
      split at hc
      · rename_i fd hf
        split at hc
        · rename_i i hi
          simp only [Bool.and_eq_true, Bool.or_eq_true, decide_eq_true_eq] at hc
          have key : moveA off (x.ev fr) = some v ∧ h' = h := by
            simp only [opRun] at hx
            split at hx
            · rename_i he; simp at hx; rw [he]; simp [moveA, hx.1, hx.2]
            · rename_i he; simp at hx; rw [he]; simp [moveA, hx.1, hx.2]
            · cases hx
          obtain ⟨k1, rfl⟩ := key
          rcases hc.2 with hk | hk
          · exact OpS.ofV (by simp only [execOp, hop]) (fa_sound hr hk hc.1 (chkOpd_rel r h1) k1)
          · exact OpS.ofV (by simp only [execOp, hop]) (fa_sound hr hk hc.1 (chkOpd_rel r h1) k1)
        · cases hc
      · cases hc
    · cases hc
  · -- fld
    rename_i agg off s x t y f hop
    simp only [Bool.and_eq_true] at hc
    simp only [opRun] at hx
    split at hx
    · rename_i cs he
      cases hra : readAt agg s (cs.drop off) with
      | none => simp [hra] at hx
      | some q =>
        simp [hra] at hx; obtain ⟨rfl, rfl⟩ := hx
        have hv := chkOpd_rel r hc.2
        rw [he] at hv
        exact OpS.ofV (by simp only [execOp, hop]) (fld_sound hr hc.1 hv hra)
    · cases hx
  · -- ixa
    rename_i s x i t y j hop
    simp only [Bool.and_eq_true] at hc
    have hxv := chkOpd_rel r hc.1.2
    have hiv := chkOpd_rel r hc.2
    simp only [opRun] at hx
    split at hx
    · rename_i k n he
      rw [he] at hiv
      split at hx
      · rename_i e tk hs
        split at hx
        · rename_i h0
          obtain ⟨cs, h1, h2⟩ := bind_some_iff.1 hx
          split at h2
          · rename_i hl
            simp at h2; obtain ⟨rfl, rfl⟩ := h2
            rw [hs] at hxv
            exact OpS.ofV (s := Instr.indexAt t (a.eval y) (.int k n)) (by simp only [execOp, hop, inv_int hiv]) (ixa_sound hr hc.1.1 hxv (by simp [h0, h1, hl]))
          · cases h2
        · cases hx
      · rename_i id st l hs
        split at hx
        · rename_i z rs hg
          split at hx
          · rename_i hb
            simp at hx; obtain ⟨rfl, rfl⟩ := hx
            rw [hs] at hxv
            exact OpS.ofV (s := Instr.indexAt t (a.eval y) (.int k n)) (by simp only [execOp, hop, inv_int hiv]) (ixa_sound hr hc.1.1 hxv (by simp only [hg, hb, and_self, if_true]))
          · cases hx
        · cases hx
      · cases hx
    · cases hx
  · -- ixarr
    rename_i len s x i t y j hop
    simp only [Bool.and_eq_true, Bool.or_eq_true] at hc
    have hxv := chkOpd_rel r hc.1.2
    have hiv := chkOpd_rel r hc.2
    simp only [opRun] at hx
    split at hx
    · rename_i k n he
      rw [he] at hiv
      split at hx
      · rename_i hb
        have key : moveA (n.toNat * s) (x.ev fr) = some v ∧ h' = h := by
          split at hx
          · rename_i he; simp at hx; rw [he]; simp [moveA, hx.1, hx.2]
          · rename_i he; simp at hx; rw [he]; simp [moveA, hx.1, hx.2]
          · cases hx
        obtain ⟨k1, rfl⟩ := key
        rcases hc.1.1 with hk | hk
        · exact OpS.ofV (s := Instr.indexAt t (a.eval y) (.int k n)) (by simp only [execOp, hop, inv_int hiv]) (ixarr_sound hr hk hxv hb.1 hb.2 k1)
        · exact OpS.ofV (s := Instr.indexAt t (a.eval y) (.int k n)) (by simp only [execOp, hop, inv_int hiv]) (ixarr_sound hr hk hxv hb.1 hb.2 k1)
      · cases hx
    · cases hx
  · -- ix
    rename_i x i t y j hop
    simp only [Bool.and_eq_true] at hc
    have hxv := chkOpd_rel r hc.1.2
    have hiv := chkOpd_rel r hc.2
    simp only [opRun] at hx
    split at hx
    · rename_i s k n hs he
      rw [he] at hiv; rw [hs] at hxv
      split at hx
      · rename_i h0
        cases hb : s[n.toNat]? with
        | none => simp [hb] at hx
        | some b =>
          simp [hb] at hx; obtain ⟨rfl, rfl⟩ := hx
          exact OpS.ofV (s := Instr.index t (a.eval y) (.int k n)) (by simp only [execOp, hop, inv_int hiv]) (ix_sound hr hc.1.1 hxv h0 hb)
      · cases hx
    · cases hx
  · -- ixagg
    rename_i agg len s x i t y j hop
    simp only [Bool.and_eq_true] at hc
    have hxv := chkOpd_rel r hc.1.2
    have hiv := chkOpd_rel r hc.2
    simp only [opRun] at hx
    split at hx
    · rename_i cs k n hs he
      rw [he] at hiv; rw [hs] at hxv
      split at hx
      · rename_i hb
        cases hra : readAt agg s (cs.drop (n.toNat * s)) with
        | none => simp [hra] at hx
        | some q =>
          simp [hra] at hx; obtain ⟨rfl, rfl⟩ := hx
          exact OpS.ofV (s := Instr.index t (a.eval y) (.int k n)) (by simp only [execOp, hop, inv_int hiv]) (ixagg_sound hr hc.1.1 hxv hb.1 hb.2 hra)
      · cases hx
    · cases hx
  · -- lookup
    rename_i kk ok z x k t y k' ok' hop
    simp only [Bool.and_eq_true, beq_iff_eq] at hc
    obtain ⟨⟨⟨⟨h1, h2⟩, h3⟩, h4⟩, rfl⟩ := hc
    simp only [opRun] at hx
    split at hx
    · rename_i hk
      have hxv := chkOpd_rel r h3
      have hkv := chkOpd_rel r h4
      have key : (match (generalizing := false) x.ev fr with
        | .nilm => some (if ok then AV.tup [z, .bool false] else z)
        | .map id =>
          match h.get id with
          | some (.map es) => (findKeyA (k.ev fr) es).map fun | some v => if ok then AV.tup [v, .bool true] else v | none => if ok then AV.tup [z, .bool false] else z
          | _ => none
        | _ => none) = some v ∧ h' = h := by
        split at hx
        · rename_i he; simp at hx; simp [he, hx.1, hx.2]
        · rename_i id he
          split at hx
          · rename_i es hg
            cases hf : findKeyA (k.ev fr) es with
            | none => simp [hf] at hx
            | some rr => cases rr <;> (simp [hf] at hx; refine ⟨?_, hx.2.symm⟩; rw [he]; simp [hg, hf, hx.1])
          · cases hx
        · cases hx
      obtain ⟨k1, rfl⟩ := key
      exact OpS.ofV (by simp only [execOp, hop]) (lookup_sound hr h1 h2 hxv hkv hk k1)
    · cases hx
  · -- mapset
    rename_i kk m k u t m' k' v' hop
    simp only [Bool.and_eq_true] at hc
    obtain ⟨⟨⟨h1, h2⟩, h3⟩, h4⟩ := hc
    simp only [opRun] at hx
    split at hx
    · rename_i hk
      split at hx
      · cases hx
      · rename_i id he hne
        split at hx
        · rename_i es hg
          cases hs : setKeyA (k.ev fr) (u.ev fr) es with
          | none => simp [hs] at hx
          | some es' =>
            simp [hs] at hx; obtain ⟨rfl, rfl⟩ := hx
            have hm := chkOpd_rel r h2
            rw [he] at hm
            obtain ⟨w', k1, k2, k3⟩ := mapset_sound hr h1 hm (chkOpd_rel r h3) hk (chkOpd_rel r h4) hg hs
            exact OpS.ofU (by simp only [execOp, hop]) k1 k2 k3
        · cases hx
      · cases hx
    · cases hx
  · rename_i kk m k u t m' k' v' hop
    simp only [Bool.and_eq_true] at hc
    obtain ⟨⟨⟨h1, h2⟩, h3⟩, h4⟩ := hc
    simp only [opRun] at hx
    split at hx
    · rename_i hk
      split at hx
      · cases hx
      · rename_i id he hne
        split at hx
        · rename_i es hg
          cases hs : setKeyA (k.ev fr) (u.ev fr) es with
          | none => simp [hs] at hx
          | some es' =>
            simp [hs] at hx; obtain ⟨rfl, rfl⟩ := hx
            have hm := chkOpd_rel r h2
            rw [he] at hm
            obtain ⟨w', k1, k2, k3⟩ := mapset_sound hr h1 hm (chkOpd_rel r h3) hk (chkOpd_rel r h4) hg hs
            exact OpS.ofU (by simp only [execOp, hop]) k1 k2 k3
        · cases hx
      · cases hx
    · cases hx
  · -- extr
    rename_i x i y j hop
    simp only [Bool.and_eq_true, beq_iff_eq] at hc
    obtain ⟨h1, rfl⟩ := hc
    simp only [opRun] at hx
    split at hx
    · rename_i l he
      cases hl : l[i]? with
      | none => simp [hl] at hx
      | some q =>
        simp [hl] at hx; obtain ⟨rfl, rfl⟩ := hx
        have hv := chkOpd_rel r h1
        rw [he] at hv
        exact OpS.ofV (by simp only [execOp, hop]) (extr_sound hr hv hl)
    · cases hx
  · exact call_sound hcall hr r hc hx

end
end Go.Proofs.YtfahpmlckobpmaaGreatDoor.Pi
/-
  Regions in the text's order.
-/
namespace Go.Proofs.YtfahpmlckobpmaaGreatDoor.Pi
open Go

section
variable {P : Program} {g : G} {h : AH} {W : World}

def dstOf (ops : Array Oper) (j : Nat) : Option Nat := (ops[j]?).bind (·.dst)

def chkGuard (ops : Array Oper) : Option (Nat × Bool) → Option (Nat × Bool) → Bool
  | none, none => true
  | some (t, b), some (j, c) => (b == c) && decide (dstOf ops j = some t)
  | _, _ => false

def chkOper (P : Program) (nt : Nat) (ops : Array Oper) (x : AOper) (o : Oper) : Bool :=
  chkOp P x.op o.op && decide (x.dst = o.dst) && (match x.dst with | some d => decide (d < nt) | none => true) && chkGuard ops x.guard o.guard

theorem guard_sound {ops : Array Oper} {fr : Fr} {a : Act} (r : FRel g h W fr a.tmps) {ag : Option (Nat × Bool)} {o : Oper} (hc : chkGuard ops ag o.guard = true) {b : Bool} (hw : opWanted fr ag = some b) :
    Region.wanted o (yielded ops a.tmps) = b := by
  unfold chkGuard at hc
  split at hc
  · rename_i h1
    simp [opWanted] at hw; subst hw
    simp [Region.wanted, h1]
  · rename_i t c j c' h1
    simp only [Bool.and_eq_true, beq_iff_eq, decide_eq_true_eq] at hc
    obtain ⟨rfl, hd⟩ := hc
    have hv := r t
    have hy : yielded ops a.tmps j = match a.tmps[t]? with | some (.bool b) => some b | _ => none := by
      unfold yielded
      have : (ops[j]?).bind (·.dst) = some t := hd
      rw [this]; rfl
    simp only [Region.wanted, h1, hy]
    simp only [opWanted] at hw
    split at hw
    · rename_i cc he
      rw [he] at hv
      have hb := inv_bool hv
      simp at hw; subst hw
      cases ht : a.tmps[t]? with
      | none => simp [ht, undef] at hb
      | some x => simp [ht] at hb; subst hb; cases cc <;> cases c <;> rfl
    · rename_i l he
      rw [he] at hv
      obtain ⟨x, hx, _⟩ := inv_tup hv
      simp at hw; subst hw
      cases ht : a.tmps[t]? with
      | none => simp
      | some y => simp [ht] at hx; subst hx; simp
    · cases hw
  · cases hc

theorem size_put (a : Act) (d : Option Nat) (v : Value) : (a.put d v).tmps.size = a.tmps.size := by cases d <;> simp [Act.put]
theorem defers_put (a : Act) (d : Option Nat) (v : Value) : (a.put d v).defers = a.defers := by cases d <;> simp [Act.put]

theorem tup_undef {V : Nat → Nat → Prop} : VRel g W V (.tup []) undef := .tup [] #[] rfl (by simp)

/-- what code leaves -/
def Left (g : G) (h : AH) (W : World) (nt : Nat) (fr' : Fr) (h' : AH) (a' : Act) (W' : World) : Prop :=
  a'.tmps.size = nt ∧ a'.defers = [] ∧ ∃ g', HRel g' h' W' ∧ Ext g h W g' h' W' ∧ FRel g' h' W' fr' a'.tmps

theorem reg_ops {call : CallF} (hcall : CallS P call) {nt : Nat} {ops : Array Oper} {Q : Exit → Act → World → Prop} :
    ∀ (xs : List AOper) (os : List Oper) (i : Nat), (∀ j o, os[j]? = some o → ops[i + j]? = some o) → xs.length = os.length → ((xs.zip os).all fun p => chkOper P nt ops p.1 p.2) = true →
      ∀ (fr : Fr) (g : G) (h : AH) (W : World) (a : Act) (fr' : Fr) (h' : AH), HRel g h W → FRel g h W fr a.tmps → a.tmps.size = nt → a.defers = [] → regRun call xs fr h = some (fr', h') →
        (∀ a' W', Left g h W nt fr' h' a' W' → Q .normal a' W') → wpOps P ops Q (List.range' i os.length) a W
  | [], [], i, _, _, _, fr, g, h, W, a, fr', h', hr, r, hs, hd, hx, hQ => by
    simp [regRun] at hx; obtain ⟨rfl, rfl⟩ := hx
    exact hQ a W ⟨hs, hd, g, hr, Ext.refl _ _ _, r⟩
  | [], _ :: _, _, _, hl, _, _, _, _, _, _, _, _, _, _, _, _, _, _ => by simp at hl
  | _ :: _, [], _, _, hl, _, _, _, _, _, _, _, _, _, _, _, _, _, _ => by simp at hl
  | x :: xs, o :: os, i, hops, hl, hc, fr, g, h, W, a, fr', h', hr, r, hs, hd, hx, hQ => by
    simp only [List.zip_cons_cons, List.all_cons, Bool.and_eq_true] at hc
    obtain ⟨hc0, hc1⟩ := hc
    have ih := reg_ops hcall (nt := nt) (ops := ops) (Q := Q) xs os (i + 1) (fun j o' h1 => by
      have := hops (j + 1) o' (by simpa using h1)
      rw [← this]; congr 1; omega) (by simpa using hl) hc1
    simp only [chkOper, Bool.and_eq_true, decide_eq_true_eq] at hc0
    obtain ⟨⟨⟨k1, k2⟩, k3⟩, k4⟩ := hc0
    have hoi : ops[i]? = some o := hops 0 o rfl
    have hdlt : ∀ d, o.dst = some d → d < a.tmps.size := fun d hd' => by
      rw [← k2] at hd'
      rw [hd'] at k3
      rw [hs]; simpa using k3
    simp only [List.length_cons, List.range'_succ, wpOps, hoi]
    simp only [regRun] at hx
    split at hx
    · rename_i hw
      have hwant := guard_sound r k4 hw
      simp only [hwant, if_true]
      obtain ⟨y, h1, h2⟩ := bind_some_iff.1 hx
      refine .inl (op_sound hcall hr r k1 (v := y.1) (h' := y.2) h1 _ _ fun z g' W' e1 e2 e3 => ?_)
      refine ih (putFr fr x.dst y.1) g' y.2 W' (a.put o.dst z) fr' h' e1 ?_ (by rw [size_put]; exact hs) (by rw [defers_put]; exact hd) h2 fun a' W'' hL => hQ a' W'' ?_
      · rw [k2]; exact (r.ext e2).put hdlt e3
      · obtain ⟨q1, q2, g'', q3, q4, q5⟩ := hL
        exact ⟨q1, q2, g'', q3, e2.trans q4, q5⟩
    · rename_i hw
      have hwant := guard_sound r k4 hw
      simp only [hwant, Bool.false_eq_true, if_false]
      refine ih (putFr fr x.dst (.tup [])) g h W (a.put o.dst undef) fr' h' hr ?_ (by rw [size_put]; exact hs) (by rw [defers_put]; exact hd) hx hQ
      rw [k2]; exact r.put hdlt tup_undef
    · cases hx

def chkReg (P : Program) (nt : Nat) (xs : List AOper) (ops : Array Oper) : Bool :=
  (xs.length == ops.toList.length) && (xs.zip ops.toList).all fun p => chkOper P nt ops p.1 p.2

theorem reg_sound {call : CallF} (hcall : CallS P call) {nt id : Nat} {ops : Array Oper} {Q : Exit → Act → World → Prop} {xs : List AOper} (hc : chkReg P nt xs ops = true) {fr : Fr} {a : Act} {fr' : Fr} {h' : AH}
    (hr : HRel g h W) (r : FRel g h W fr a.tmps) (hs : a.tmps.size = nt) (hd : a.defers = []) (hx : regRun call xs fr h = some (fr', h')) (hQ : ∀ a' W', Left g h W nt fr' h' a' W' → Q .normal a' W') :
    (Code.region id ops false).wp P Q a W := by
  refine wp_region ?_
  simp only [chkReg, Bool.and_eq_true, beq_iff_eq] at hc
  have := reg_ops hcall (Q := Q) xs ops.toList 0 (fun j o h1 => by simpa using h1) hc.1 hc.2 fr g h W a fr' h' hr r hs hd hx hQ
  rw [List.range_eq_range']
  simpa using this

end
end Go.Proofs.YtfahpmlckobpmaaGreatDoor.Pi
/-
  What an operation looks at; what tells a value and no more.
-/
namespace Go.Proofs.YtfahpmlckobpmaaGreatDoor.Pi
open Go

def Opd.tmps : Opd → List Nat
  | .t i => [i]
  | .c _ => []
def optTmps : Option Opd → List Nat
  | none => []
  | some x => x.tmps
def lTmps (l : List Opd) : List Nat := l.flatMap Opd.tmps

def AOp.tmps : AOp → List Nat
  | .mv x | .boxv x | .boxm x | .load _ _ x | .nilck x | .un _ x | .conv _ x | .mkI _ x | .fa _ x | .fld _ _ _ x | .tassert _ _ _ x | .extr x _ | .lens x | .lenv x | .lenm x => x.tmps
  | .pick a b c => a.tmps ++ b.tmps ++ c.tmps
  | .alloc _ | .mkMap | .unreach => []
  | .build _ ps => ps.flatMap fun p => p.2.2.tmps
  | .bslice _ _ ps | .bslicem _ _ ps => ps.flatMap fun p => p.2.tmps
  | .store _ a x => a.tmps ++ x.tmps
  | .bin _ _ x y | .ixa _ x y | .ixarr _ _ x y | .ix x y | .ixagg _ _ _ x y | .lookup _ _ _ x y | .append _ x y | .appendm _ x y | .copy x y | .imin x y => x.tmps ++ y.tmps
  | .mkF _ a b => lTmps a ++ lTmps b
  | .mkSlice _ l c => l.tmps ++ c.tmps
  | .mkSlicev _ c => c.tmps
  | .slc _ x lo hi mx => x.tmps ++ optTmps lo ++ optTmps hi ++ optTmps mx
  | .slcs x lo hi => x.tmps ++ optTmps lo ++ optTmps hi
  | .mapset _ m k v => m.tmps ++ k.tmps ++ v.tmps
  | .call _ as => lTmps as
  | .callv f as => f.tmps ++ lTmps as

theorem ev_congr {fr fr' : Fr} {x : Opd} (h : ∀ i ∈ x.tmps, fget fr i = fget fr' i) : x.ev fr = x.ev fr' := by
  cases x with
  | t i => exact h i (by simp [Opd.tmps])
  | c v => rfl
theorem opt_congr {fr fr' : Fr} {x : Option Opd} (h : ∀ i ∈ optTmps x, fget fr i = fget fr' i) : x.map (Opd.ev fr) = x.map (Opd.ev fr') := by
  cases x with
  | none => rfl
  | some x => simp only [Option.map_some]; rw [ev_congr h]
theorem evL_congr {fr fr' : Fr} {l : List Opd} (h : ∀ i ∈ lTmps l, fget fr i = fget fr' i) : evL fr l = evL fr' l := by
  refine List.map_congr_left fun x hx => ev_congr fun i hi => h i (List.mem_flatMap.2 ⟨x, hx, hi⟩)

theorem mapM_congr_left' {α β : Type} {f k : α → Option β} : ∀ {l : List α}, (∀ a ∈ l, f a = k a) → l.mapM f = l.mapM k
  | [], _ => rfl
  | a :: l, h => by
    rw [List.mapM_cons, List.mapM_cons, h a (by simp), mapM_congr_left' fun b hb => h b (by simp [hb])]

theorem opRun_congr {call : CallF} {o : AOp} {fr fr' : Fr} {h : AH} (hc : ∀ i ∈ o.tmps, fget fr i = fget fr' i) : opRun call o fr h = opRun call o fr' h := by
  have two : ∀ {x y : Opd}, (∀ i ∈ x.tmps ++ y.tmps, fget fr i = fget fr' i) → x.ev fr = x.ev fr' ∧ y.ev fr = y.ev fr' := fun hc =>
    ⟨ev_congr fun i hi => hc i (List.mem_append_left _ hi), ev_congr fun i hi => hc i (List.mem_append_right _ hi)⟩
  have three : ∀ {x y z : Opd}, (∀ i ∈ x.tmps ++ y.tmps ++ z.tmps, fget fr i = fget fr' i) → x.ev fr = x.ev fr' ∧ y.ev fr = y.ev fr' ∧ z.ev fr = z.ev fr' := fun hc =>
    ⟨(two fun i hi => hc i (List.mem_append_left _ hi)).1, (two fun i hi => hc i (List.mem_append_left _ hi)).2, ev_congr fun i hi => hc i (List.mem_append_right _ hi)⟩
  cases o with
  | alloc _ => rfl
  | mkMap => rfl
  | unreach => rfl
  | mv x => simp only [opRun, ev_congr hc]
  | boxv x => simp only [opRun, ev_congr hc]
  | boxm x => simp only [opRun, ev_congr hc]
  | load _ _ x => simp only [opRun, ev_congr hc]
  | nilck x => simp only [opRun, ev_congr hc]
  | un _ x => simp only [opRun, ev_congr hc]
  | conv _ x => simp only [opRun, ev_congr hc]
  | mkI _ x => simp only [opRun, ev_congr hc]
  | fa _ x => simp only [opRun, ev_congr hc]
  | fld _ _ _ x => simp only [opRun, ev_congr hc]
  | tassert _ _ _ x => simp only [opRun, ev_congr hc]
  | extr x _ => simp only [opRun, ev_congr hc]
  | lens x => simp only [opRun, ev_congr hc]
  | lenv x => simp only [opRun, ev_congr hc]
  | lenm x => simp only [opRun, ev_congr hc]
  | mkSlicev _ x => simp only [opRun, ev_congr hc]
  | pick a b c => obtain ⟨h1, h2, h3⟩ := three hc; simp only [opRun, h1, h2, h3]
  | mapset _ a b c => obtain ⟨h1, h2, h3⟩ := three hc; simp only [opRun, h1, h2, h3]
  | store _ a x => obtain ⟨h1, h2⟩ := two hc; simp only [opRun, h1, h2]
  | bin _ _ a x => obtain ⟨h1, h2⟩ := two hc; simp only [opRun, h1, h2]
  | ixa _ a x => obtain ⟨h1, h2⟩ := two hc; simp only [opRun, h1, h2]
  | ixarr _ _ a x => obtain ⟨h1, h2⟩ := two hc; simp only [opRun, h1, h2]
  | ix a x => obtain ⟨h1, h2⟩ := two hc; simp only [opRun, h1, h2]
  | ixagg _ _ _ a x => obtain ⟨h1, h2⟩ := two hc; simp only [opRun, h1, h2]
  | lookup _ _ _ a x => obtain ⟨h1, h2⟩ := two hc; simp only [opRun, h1, h2]
  | append _ a x => obtain ⟨h1, h2⟩ := two hc; simp only [opRun, h1, h2]
  | appendm _ a x => obtain ⟨h1, h2⟩ := two hc; simp only [opRun, h1, h2]
  | imin a x => obtain ⟨h1, h2⟩ := two hc; simp only [opRun, h1, h2]
  | copy a x => obtain ⟨h1, h2⟩ := two hc; simp only [opRun, h1, h2]
  | mkSlice _ a x => obtain ⟨h1, h2⟩ := two hc; simp only [opRun, h1, h2]
  | build z ps =>
    have : ps.mapM (fun (p : Nat × Nat × Opd) => (cellsOf (p.2.2.ev fr)).bind fun cs => if cs.length = p.2.1 then some (p.1, cs) else none) = ps.mapM (fun (p : Nat × Nat × Opd) => (cellsOf (p.2.2.ev fr')).bind fun cs => if cs.length = p.2.1 then some (p.1, cs) else none) :=
      mapM_congr_left' fun p hp => by rw [ev_congr fun i hi => hc i (List.mem_flatMap.2 ⟨p, hp, hi⟩)]
    simp only [opRun, this]
  | bslice z n ps =>
    have : ps.mapM (fun (p : Nat × Opd) => (cellsOf (p.2.ev fr)).bind fun cs => if cs.length = z.length then some (p.1, stripL cs) else none) = ps.mapM (fun (p : Nat × Opd) => (cellsOf (p.2.ev fr')).bind fun cs => if cs.length = z.length then some (p.1, stripL cs) else none) :=
      mapM_congr_left' fun p hp => by rw [ev_congr fun i hi => hc i (List.mem_flatMap.2 ⟨p, hp, hi⟩)]
    simp only [opRun, this]
  | bslicem z n ps =>
    have : ps.mapM (fun (p : Nat × Opd) => (cellsOf (p.2.ev fr)).bind fun cs => if cs.length = z.length then some (p.1, cs) else none) = ps.mapM (fun (p : Nat × Opd) => (cellsOf (p.2.ev fr')).bind fun cs => if cs.length = z.length then some (p.1, cs) else none) :=
      mapM_congr_left' fun p hp => by rw [ev_congr fun i hi => hc i (List.mem_flatMap.2 ⟨p, hp, hi⟩)]
    simp only [opRun, this]
  | mkF f a b => simp only [opRun, evL_congr (fun i hi => hc i (List.mem_append_left _ hi)), evL_congr (fun i hi => hc i (List.mem_append_right _ hi))]
  | call f as => simp only [opRun, evL_congr hc]
  | callv f as => simp only [opRun, ev_congr (fun i hi => hc i (List.mem_append_left _ hi)), evL_congr (fun i hi => hc i (List.mem_append_right _ hi))]
  | slc z x lo hi mx =>
    simp only [opRun, ev_congr (fun i h => hc i (List.mem_append_left _ (List.mem_append_left _ (List.mem_append_left _ h)))),
      opt_congr (fun i h => hc i (List.mem_append_left _ (List.mem_append_left _ (List.mem_append_right _ h)))),
      opt_congr (fun i h => hc i (List.mem_append_left _ (List.mem_append_right _ h))), opt_congr (fun i h => hc i (List.mem_append_right _ h))]
  | slcs x lo hi =>
    simp only [opRun, ev_congr (fun i h => hc i (List.mem_append_left _ (List.mem_append_left _ h))),
      opt_congr (fun i h => hc i (List.mem_append_left _ (List.mem_append_right _ h))), opt_congr (fun i h => hc i (List.mem_append_right _ h))]

/-- it hangs on its operands alone -/
def AOp.isPure : AOp → Bool
  | .mv _ | .pick .. | .boxv _ | .build .. | .bslice .. | .nilck _ | .bin .. | .un .. | .conv .. | .mkI .. | .mkF .. | .slcs .. | .fa .. | .fld .. | .ixarr .. | .ix .. | .ixagg .. | .extr .. | .lens _ | .lenv _ | .imin .. => true
  | _ => false
/-- it leaves the numbered blocks alone -/
def AOp.isVal (o : AOp) : Bool :=
  o.isPure || match o with
  | .load .. | .slc .. | .ixa .. | .lookup .. | .lenm _ => true
  | _ => false

theorem pure_any {call : CallF} {o : AOp} (hp : o.isPure = true) {fr : Fr} {h h' : AH} {v : AV} (hr : opRun call o fr h = some (v, h')) : h' = h ∧ ∀ H, opRun call o fr H = some (v, H) := by
  have map1 : ∀ {x : Option AV}, x.map (fun v => (v, h)) = some (v, h') → h' = h ∧ ∀ H : AH, x.map (fun v => (v, H)) = some (v, H) := fun {x} hx => by
    cases x with
    | none => simp at hx
    | some y => simp at hx; obtain ⟨rfl, rfl⟩ := hx; exact ⟨rfl, fun _ => rfl⟩
  cases o <;> simp only [AOp.isPure, Bool.false_eq_true] at hp <;> simp only [opRun] at hr ⊢
  case mv x => simp at hr; obtain ⟨rfl, rfl⟩ := hr; exact ⟨rfl, fun _ => rfl⟩
  case pick => split at hr <;> simp at hr; obtain ⟨rfl, rfl⟩ := hr; exact ⟨rfl, fun _ => rfl⟩
  case boxv x =>
    obtain ⟨cs, h1, h2⟩ := bind_some_iff.1 hr
    simp at h2; obtain ⟨rfl, rfl⟩ := h2
    exact ⟨rfl, fun H => bind_some_iff.2 ⟨cs, h1, rfl⟩⟩
  case build =>
    obtain ⟨cs, h1, h2⟩ := bind_some_iff.1 hr
    obtain ⟨ds, h3, h4⟩ := bind_some_iff.1 h2
    simp at h4; obtain ⟨rfl, rfl⟩ := h4
    exact ⟨rfl, fun H => bind_some_iff.2 ⟨cs, h1, bind_some_iff.2 ⟨ds, h3, rfl⟩⟩⟩
  case bslice =>
    obtain ⟨cs, h1, h2⟩ := bind_some_iff.1 hr
    split at h2
    · rename_i hq
      simp at h2; obtain ⟨rfl, rfl⟩ := h2
      exact ⟨rfl, fun H => bind_some_iff.2 ⟨cs, h1, by rw [if_pos hq]⟩⟩
    · cases h2
  case nilck => split at hr <;> simp at hr <;> (obtain ⟨rfl, rfl⟩ := hr; exact ⟨rfl, fun _ => rfl⟩)
  case bin => exact map1 hr
  case un => exact map1 hr
  case conv => split at hr <;> simp at hr; obtain ⟨rfl, rfl⟩ := hr; exact ⟨rfl, fun _ => rfl⟩
  case mkI =>
    split at hr
    · cases hr
    · simp at hr; obtain ⟨rfl, rfl⟩ := hr; exact ⟨rfl, fun _ => rfl⟩
  case mkF => simp at hr; obtain ⟨rfl, rfl⟩ := hr; exact ⟨rfl, fun _ => rfl⟩
  case slcs => exact map1 hr
  case fa => split at hr <;> simp at hr <;> (obtain ⟨rfl, rfl⟩ := hr; exact ⟨rfl, fun _ => rfl⟩)
  case fld => split at hr <;> first | exact map1 hr | cases hr
  case ixarr =>
    split at hr
    · split at hr
      · rename_i hb
        simp only [hb, and_self, if_true]
        split at hr <;> simp at hr <;> (obtain ⟨rfl, rfl⟩ := hr; exact ⟨rfl, fun _ => rfl⟩)
      · cases hr
    · cases hr
  case ix =>
    split at hr
    · split at hr
      · rename_i hb
        simp only [hb, if_true]
        rename_i s k n _ _
        cases hs : s[n.toNat]? with
        | none => simp [hs] at hr
        | some b => simp [hs] at hr; obtain ⟨rfl, rfl⟩ := hr; exact ⟨rfl, fun _ => rfl⟩
      · cases hr
    · cases hr
  case ixagg =>
    split at hr
    · split at hr
      · rename_i hb
        simp only [hb, and_self, if_true]
        exact map1 hr
      · cases hr
    · cases hr
  case extr => split at hr <;> first | exact map1 hr | cases hr
  case imin => split at hr <;> simp at hr; obtain ⟨rfl, rfl⟩ := hr; exact ⟨rfl, fun _ => rfl⟩
  case lens => split at hr <;> simp at hr; obtain ⟨rfl, rfl⟩ := hr; exact ⟨rfl, fun _ => rfl⟩
  case lenv => split at hr <;> simp at hr <;> (obtain ⟨rfl, rfl⟩ := hr; exact ⟨rfl, fun _ => rfl⟩)

theorem val_same {call : CallF} {o : AOp} (hp : o.isVal = true) {fr : Fr} {h h' : AH} {v : AV} (hr : opRun call o fr h = some (v, h')) : h' = h := by
  have map1 : ∀ {x : Option AV}, x.map (fun v => (v, h)) = some (v, h') → h' = h := fun {x} hx => by
    cases x with
    | none => simp at hx
    | some y => simp at hx; exact hx.2.symm
  by_cases hq : o.isPure = true
  · exact (pure_any hq hr).1
  · simp only [AOp.isVal, hq, Bool.false_or] at hp
    cases o <;> simp only [AOp.isPure, not_true_eq_false] at hq <;> simp only [Bool.false_eq_true] at hp <;> simp only [opRun] at hr
    case load =>
      split at hr
      · exact map1 hr
      · split at hr
        · obtain ⟨cs, h1, h2⟩ := bind_some_iff.1 hr; exact map1 h2
        · cases hr
      · cases hr
    case slc => exact map1 hr
    case ixa =>
      split at hr
      · split at hr
        · split at hr
          · obtain ⟨cs, h1, h2⟩ := bind_some_iff.1 hr
            split at h2
            · simp at h2; exact h2.2.symm
            · cases h2
          · cases hr
        · split at hr
          · split at hr
            · simp at hr; exact hr.2.symm
            · cases hr
          · cases hr
        · cases hr
      · cases hr
    case lookup =>
      split at hr
      · split at hr
        · simp at hr; exact hr.2.symm
        · split at hr
          · rw [Option.map_eq_some_iff] at hr
            obtain ⟨q, _, h2⟩ := hr
            cases q <;> (simp at h2; exact h2.2.symm)
          · cases hr
        · cases hr
      · cases hr
    case lenm =>
      split at hr
      · simp at hr; exact hr.2.symm
      · split at hr
        · simp at hr; exact hr.2.symm
        · cases hr
      · cases hr

end Go.Proofs.YtfahpmlckobpmaaGreatDoor.Pi
