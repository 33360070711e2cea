/-
  Regions in whatever order: what the text's order tells.
-/
import Derived.Test.YtfahpmlckobpmaaGreatDoorPiE
import Derived.Orders
set_option linter.unusedSimpArgs false
set_option linter.unusedVariables false
set_option linter.unusedSectionVars false
namespace Go.Proofs.YtfahpmlckobpmaaGreatDoor.Pi
open Go

abbrev Als := List (Nat × Nat × List AV)

def opsOf : List DOp → List (Nat × AOper)
  | [] => []
  | .val ix _ o :: r => (ix, o) :: opsOf r
  | .eff _ ix o :: r => (ix, o) :: opsOf r
def alsOf : List DOp → Als
  | [] => []
  | .val _ _ _ :: r => alsOf r
  | .eff als _ _ :: r => als ++ alsOf r
def effOf : List DOp → List Nat
  | [] => []
  | .val _ _ _ :: r => effOf r
  | .eff _ ix _ :: r => ix :: effOf r

def usesOf (o : AOper) : List Nat := o.op.tmps ++ (match o.guard with | some (t, _) => [t] | none => [])
def elOper : DOp → AOper
  | .val _ _ o => o
  | .eff _ _ o => o
def elIx : DOp → Nat
  | .val ix _ _ => ix
  | .eff _ ix _ => ix
def elAls : DOp → Als
  | .val _ _ _ => []
  | .eff als _ _ => als
def adst (A : Als) : List Nat := A.map (·.2.1)
def elDsts (x : DOp) : List Nat := adst (elAls x) ++ (elOper x).dst.toList
def dsts : List DOp → List Nat
  | [] => []
  | x :: r => elDsts x ++ dsts r

theorem opsOf_append : ∀ (a b : List DOp), opsOf (a ++ b) = opsOf a ++ opsOf b
  | [], _ => rfl
  | .val .. :: a, b => by simp [opsOf, opsOf_append a b]
  | .eff .. :: a, b => by simp [opsOf, opsOf_append a b]
theorem alsOf_append : ∀ (a b : List DOp), alsOf (a ++ b) = alsOf a ++ alsOf b
  | [], _ => rfl
  | .val .. :: a, b => by simp [alsOf, alsOf_append a b]
  | .eff .. :: a, b => by simp [alsOf, alsOf_append a b]
theorem effOf_append : ∀ (a b : List DOp), effOf (a ++ b) = effOf a ++ effOf b
  | [], _ => rfl
  | .val .. :: a, b => by simp [effOf, effOf_append a b]
  | .eff .. :: a, b => by simp [effOf, effOf_append a b]

theorem mem_opsOf {q : Nat × AOper} : ∀ {ds : List DOp}, q ∈ opsOf ds → ∃ l1 x l2, ds = l1 ++ x :: l2 ∧ elIx x = q.1 ∧ elOper x = q.2
  | .val ix w o :: r, h => by
    simp only [opsOf, List.mem_cons] at h
    rcases h with rfl | h
    · exact ⟨[], _, r, rfl, rfl, rfl⟩
    · obtain ⟨l1, x, l2, rfl, h1, h2⟩ := mem_opsOf h; exact ⟨_ :: l1, x, l2, rfl, h1, h2⟩
  | .eff als ix o :: r, h => by
    simp only [opsOf, List.mem_cons] at h
    rcases h with rfl | h
    · exact ⟨[], _, r, rfl, rfl, rfl⟩
    · obtain ⟨l1, x, l2, rfl, h1, h2⟩ := mem_opsOf h; exact ⟨_ :: l1, x, l2, rfl, h1, h2⟩

theorem dsts_ops {ds : List DOp} {q : Nat × AOper} (h : q ∈ opsOf ds) {d : Nat} (hd : q.2.dst = some d) : d ∈ dsts ds := by
  obtain ⟨l1, x, l2, rfl, _, h2⟩ := mem_opsOf h
  have : d ∈ elDsts x := by simp [elDsts, h2, hd]
  clear h
  induction l1 with
  | nil => exact List.mem_append_left _ this
  | cons y l1 ih => exact List.mem_append_right _ ih
theorem dsts_als : ∀ {ds : List DOp} {al : Nat × Nat × List AV}, al ∈ alsOf ds → al.2.1 ∈ dsts ds
  | .val ix w o :: r, al, h => List.mem_append_right _ (dsts_als h)
  | .eff als ix o :: r, al, h => by
    simp only [alsOf, List.mem_append] at h
    rcases h with h | h
    · exact List.mem_append_left _ (List.mem_append_left _ (List.mem_map.2 ⟨al, h, rfl⟩))
    · exact List.mem_append_right _ (dsts_als h)

def ValF (call : CallF) (f frN : Fr) (CK : List Ck) (w : Option (Nat × Nat)) (o : AOper) (H : AH) : Prop :=
  (opWanted f o.guard = some true ∧ ∃ v h', opRun call o.op f H = some (v, h') ∧ (∀ d, o.dst = some d → fget frN d = v) ∧ ∀ lo n, w = some (lo, n) → (⟨f, o.op, v, lo, n⟩ : Ck) ∈ CK) ∨
  (opWanted f o.guard = some false ∧ ∀ d, o.dst = some d → fget frN d = .tup [])
def alsH : Als → AH → AH
  | [], h => h
  | (_, _, z) :: r, h => alsH r (h.push (.rows z.length [z]))
def AlsF (frN : Fr) : Als → AH → Prop
  | [], _ => True
  | (_, d, z) :: r, h => fget frN d = .ptr h.next 0 0 ∧ AlsF frN r (h.push (.rows z.length [z]))
def EffF (call : CallF) (f frN : Fr) (o : AOper) (hA H' : AH) : Prop :=
  (opWanted f o.guard = some true ∧ ∃ v, opRun call o.op f hA = some (v, H') ∧ ∀ d, o.dst = some d → fget frN d = v) ∨
  (opWanted f o.guard = some false ∧ H' = hA ∧ ∀ d, o.dst = some d → fget frN d = .tup [])

theorem als_run : ∀ (als : Als) (fr : Fr) (h : AH), (alsRun als fr h).2 = alsH als h ∧ ((∀ i, i ∉ adst als → fget (alsRun als fr h).1 i = fget fr i)) ∧ ((adst als).Nodup → AlsF (alsRun als fr h).1 als h)
  | [], fr, h => ⟨rfl, fun _ _ => rfl, fun _ => trivial⟩
  | (ix, d, z) :: r, fr, h => by
    obtain ⟨h1, h2, h3⟩ := als_run r ((d, .ptr h.next 0 0) :: fr) (h.push (.rows z.length [z]))
    refine ⟨h1, fun i hi => ?_, fun hn => ?_⟩
    · simp only [adst, List.map_cons, List.mem_cons, not_or] at hi
      rw [alsRun, h2 i hi.2]
      simp [fget, Ne.symm hi.1]
    · simp only [adst, List.map_cons, List.nodup_cons] at hn
      refine ⟨?_, h3 hn.2⟩
      rw [alsRun, h2 d hn.1]
      simp [fget]

theorem AlsF.congr {fr fr' : Fr} : ∀ {als : Als} {h : AH}, (∀ i ∈ adst als, fget fr' i = fget fr i) → AlsF fr als h → AlsF fr' als h
  | [], _, _, _ => trivial
  | (ix, d, z) :: r, h, hc, hf => ⟨(hc d (by simp [adst])).trans hf.1, AlsF.congr (fun i hi => hc i (by simp only [adst, List.map_cons, List.mem_cons]; exact .inr hi)) hf.2⟩

theorem opWanted_congr {fr fr' : Fr} {gd : Option (Nat × Bool)} (h : ∀ i ∈ (match gd with | some (t, _) => [t] | none => []), fget fr i = fget fr' i) : opWanted fr gd = opWanted fr' gd := by
  cases gd with
  | none => rfl
  | some p => obtain ⟨t, b⟩ := p; simp only [opWanted]; rw [h t (by simp)]

/-- what an operation sees: what was there, where it is written later; else what is told in the end -/
def ViewF (fr frN : Fr) (x : DOp) (l2 : List DOp) (f : Fr) : Prop := ∀ t, fget f t = if t ∈ (elOper x).dst.toList ++ dsts l2 then fget fr t else fget frN t

def ElF (call : CallF) (fr frN : Fr) (SN : List AH) (CK : List Ck) (k : Nat) (l2 : List DOp) : DOp → Prop
  | .val ix w o => ∃ f H, ViewF fr frN (.val ix w o) l2 f ∧ SN[k]? = some H ∧ ValF call f frN CK w o H
  | .eff als ix o => ∃ f H H', ViewF fr frN (.eff als ix o) l2 f ∧ SN[k]? = some H ∧ SN[k + 1]? = some H' ∧ AlsF frN als H ∧ EffF call f frN o (alsH als H) H'

theorem ElF.congr {call : CallF} {fr fr' frN : Fr} {SN : List AH} {CK : List Ck} {k : Nat} {l2 : List DOp} : ∀ {x : DOp}, (∀ t, t ∈ (elOper x).dst.toList ++ dsts l2 → fget fr' t = fget fr t) → ElF call fr' frN SN CK k l2 x → ElF call fr frN SN CK k l2 x
  | .val ix w o, hc, ⟨f, H, h1, h2⟩ => ⟨f, H, fun t => by
      rw [h1 t]
      split
      · rename_i h; exact hc t h
      · rfl, h2⟩
  | .eff als ix o, hc, ⟨f, H, H', h1, h2⟩ => ⟨f, H, H', fun t => by
      rw [h1 t]
      split
      · rename_i h; exact hc t h
      · rfl, h2⟩

theorem fget_put {fr : Fr} {d : Option Nat} {v : AV} {i : Nat} (h : i ∉ d.toList) : fget (putFr fr d v) i = fget fr i := by
  cases d with
  | none => rfl
  | some d => simp at h; simp [putFr, fget, Ne.symm h]
theorem fget_put_self {fr : Fr} {d : Nat} {v : AV} : fget (putFr fr (some d) v) d = v := by simp [putFr, fget]

theorem dsts_mid {l1 : List DOp} {x : DOp} {l2 : List DOp} {t : Nat} (h : t ∈ (elOper x).dst.toList ++ dsts l2) : t ∈ dsts (l1 ++ x :: l2) := by
  induction l1 with
  | nil =>
    simp only [List.nil_append, dsts, elDsts, List.mem_append] at h ⊢
    rcases h with h | h
    · exact .inl (.inr h)
    · exact .inr h
  | cons y l1 ih => exact List.mem_append_right _ ih

theorem trace {call : CallF} : ∀ (ds : List DOp) (fr : Fr) (h : AH) (S : List AH) (ck : List Ck) (frN : Fr) (hN : AH) (SN : List AH) (CK : List Ck), dRun call ds fr h (S ++ [h]) ck = some (frN, hN, SN, CK) → (dsts ds).Nodup →
    (∀ i, i ∉ dsts ds → fget frN i = fget fr i) ∧ SN[S.length + (effOf ds).length]? = some hN ∧ (∃ T, SN = S ++ [h] ++ T) ∧ (∀ c ∈ ck, c ∈ CK) ∧
    ∀ l1 x l2, ds = l1 ++ x :: l2 → ElF call fr frN SN CK (S.length + (effOf l1).length) l2 x
  | [], fr, h, S, ck, frN, hN, SN, CK, hr, _ => by
    simp [dRun] at hr; obtain ⟨rfl, rfl, rfl, rfl⟩ := hr
    exact ⟨fun _ _ => rfl, by simp [effOf], ⟨[], by simp⟩, fun c h => h, fun l1 x l2 h => by simp at h⟩
  | .val ix w o :: r, fr, h, S, ck, frN, hN, SN, CK, hr, hn => by
    simp only [dsts, elDsts, elAls, adst, List.map_nil, List.nil_append, elOper] at hn
    have hnr : (dsts r).Nodup := (List.nodup_append.1 hn).2.1
    have hdis : ∀ d, o.dst = some d → d ∉ dsts r := fun d hd hm => (List.nodup_append.1 hn).2.2 d (by simp [hd]) d hm rfl
    have hdis' : ∀ t, t ∈ dsts r → t ∉ o.dst.toList := fun t ht hm => (List.nodup_append.1 hn).2.2 t hm t ht rfl
    have key : ∀ v ck', dRun call r (putFr fr o.dst v) h (S ++ [h]) ck' = some (frN, hN, SN, CK) →
        (∀ i, i ∉ dsts (.val ix w o :: r) → fget frN i = fget fr i) ∧ SN[S.length + (effOf (.val ix w o :: r)).length]? = some hN ∧ (∃ T, SN = S ++ [h] ++ T) ∧ (∀ c ∈ ck', c ∈ CK) ∧
        (∀ d, o.dst = some d → fget frN d = v) ∧ ViewF fr frN (.val ix w o) r fr ∧ ∀ l1 x l2, r = l1 ++ x :: l2 → ElF call fr frN SN CK (S.length + (effOf l1).length) l2 x := fun v ck' hv => by
      obtain ⟨i1, i2, i3, i4, i5⟩ := trace r _ h S ck' frN hN SN CK hv hnr
      refine ⟨fun i hi => ?_, i2, i3, i4, fun d hd => ?_, fun t => ?_, fun l1 x l2 he => (i5 l1 x l2 he).congr fun t ht => fget_put (hdis' t (by rw [he]; exact dsts_mid ht))⟩
      · simp only [dsts, elDsts, elAls, adst, List.map_nil, List.nil_append, elOper, List.mem_append, not_or] at hi
        rw [i1 i hi.2, fget_put hi.1]
      · rw [i1 d (hdis d hd), hd, fget_put_self]
      · simp only [elOper, List.mem_append]
        split
        · rfl
        · rename_i hno
          simp only [not_or] at hno
          rw [i1 t hno.2, fget_put hno.1]
    simp only [dRun] at hr
    have hsn : ∀ {T : List AH}, SN = S ++ [h] ++ T → SN[S.length + (effOf ([] : List DOp)).length]? = some h := fun hT => by rw [hT]; simp [effOf]
    split at hr
    · rename_i hw
      obtain ⟨x, h1, h2⟩ := bind_some_iff.1 hr
      obtain ⟨k1, k2, ⟨T, hT⟩, k3, k4, k5, k6⟩ := key x.1 _ h2
      refine ⟨k1, k2, ⟨T, hT⟩, fun c hc => k3 c (List.mem_append_right _ hc), fun l1 y l2 he => ?_⟩
      cases l1 with
      | nil =>
        simp only [List.nil_append, List.cons.injEq] at he
        obtain ⟨rfl, rfl⟩ := he
        exact ⟨fr, h, k5, hsn hT, .inl ⟨hw, x.1, x.2, h1, k4, fun lo n hw' => k3 _ (List.mem_append_left _ (by rw [hw']; simp [ckOf]))⟩⟩
      | cons z l1 =>
        simp only [List.cons_append, List.cons.injEq] at he
        obtain ⟨rfl, rfl⟩ := he
        exact k6 l1 y l2 rfl
    · rename_i hw
      obtain ⟨k1, k2, ⟨T, hT⟩, k3, k4, k5, k6⟩ := key (.tup []) _ hr
      refine ⟨k1, k2, ⟨T, hT⟩, k3, fun l1 y l2 he => ?_⟩
      cases l1 with
      | nil =>
        simp only [List.nil_append, List.cons.injEq] at he
        obtain ⟨rfl, rfl⟩ := he
        exact ⟨fr, h, k5, hsn hT, .inr ⟨hw, k4⟩⟩
      | cons z l1 =>
        simp only [List.cons_append, List.cons.injEq] at he
        obtain ⟨rfl, rfl⟩ := he
        exact k6 l1 y l2 rfl
    · cases hr
  | .eff als ix o :: r, fr, h, S, ck, frN, hN, SN, CK, hr, hn => by
    simp only [dsts, elDsts, elAls, elOper] at hn
    have hn1 := List.nodup_append.1 hn
    have hn2 := List.nodup_append.1 hn1.1
    have hnr : (dsts r).Nodup := hn1.2.1
    have hdis : ∀ d, o.dst = some d → d ∉ dsts r := fun d hd hm => hn1.2.2 d (by simp [hd]) d hm rfl
    have hadis : ∀ d ∈ adst als, d ∉ dsts r ∧ d ∉ o.dst.toList := fun d hd => ⟨fun hm => hn1.2.2 d (List.mem_append_left _ hd) d hm rfl, fun hm => hn2.2.2 d hd d hm rfl⟩
    have hdis' : ∀ t, t ∈ dsts r → t ∉ o.dst.toList ∧ t ∉ adst als := fun t ht => ⟨fun hm => hn1.2.2 t (List.mem_append_right _ hm) t ht rfl, fun hm => (hadis t hm).1 ht⟩
    obtain ⟨a1, a2, a3⟩ := als_run als fr h
    have key : ∀ v H', dRun call r (putFr (alsRun als fr h).1 o.dst v) H' (S ++ [h] ++ [H']) ck = some (frN, hN, SN, CK) →
        (∀ i, i ∉ dsts (.eff als ix o :: r) → fget frN i = fget fr i) ∧ SN[S.length + (effOf (.eff als ix o :: r)).length]? = some hN ∧ (∃ T, SN = S ++ [h] ++ [H'] ++ T) ∧ (∀ c ∈ ck, c ∈ CK) ∧
        (∀ d, o.dst = some d → fget frN d = v) ∧ ViewF fr frN (.eff als ix o) r (alsRun als fr h).1 ∧ AlsF frN als h ∧ ∀ l1 x l2, r = l1 ++ x :: l2 → ElF call fr frN SN CK (S.length + 1 + (effOf l1).length) l2 x := fun v H' hv => by
      obtain ⟨i1, i2, i3, i4, i5⟩ := trace r _ H' (S ++ [h]) ck frN hN SN CK hv hnr
      have hlen : (S ++ [h]).length = S.length + 1 := by simp
      rw [hlen] at i2 i5
      refine ⟨fun i hi => ?_, ?_, i3, i4, fun d hd => ?_, fun t => ?_, (a3 hn2.1).congr fun i hi => ?_, fun l1 x l2 he => (i5 l1 x l2 he).congr fun t ht => ?_⟩
      · simp only [dsts, elDsts, elAls, elOper, List.mem_append, not_or] at hi
        rw [i1 i hi.2, fget_put hi.1.2, a2 i hi.1.1]
      · rw [← i2]; simp only [effOf, List.length_cons]; congr 1; omega
      · rw [i1 d (hdis d hd), hd, fget_put_self]
      · simp only [elOper, List.mem_append]
        split
        · rename_i ht
          refine a2 t fun hm => ?_
          rcases ht with ht | ht
          · exact (hadis t hm).2 ht
          · exact (hadis t hm).1 ht
        · rename_i hno
          simp only [not_or] at hno
          rw [i1 t hno.2, fget_put hno.1]
      · rw [i1 i (hadis i hi).1, fget_put (hadis i hi).2]
      · have hm : t ∈ dsts r := by rw [he]; exact dsts_mid ht
        rw [fget_put (hdis' t hm).1, a2 t (hdis' t hm).2]
    simp only [dRun] at hr
    have hs0 : ∀ {T : List AH} {H' : AH}, SN = S ++ [h] ++ [H'] ++ T → SN[S.length + (effOf ([] : List DOp)).length]? = some h := fun hT => by rw [hT]; simp [effOf]
    have hs1 : ∀ {T : List AH} {H' : AH}, SN = S ++ [h] ++ [H'] ++ T → SN[S.length + (effOf ([] : List DOp)).length + 1]? = some H' := fun hT => by rw [hT]; simp [effOf]
    split at hr
    · rename_i hw
      obtain ⟨x, h1, h2⟩ := bind_some_iff.1 hr
      obtain ⟨k1, k2, ⟨T, hT⟩, k3, k4, k5, k6, k7⟩ := key x.1 x.2 h2
      refine ⟨k1, k2, ⟨[x.2] ++ T, by rw [hT]; simp⟩, k3, fun l1 y l2 he => ?_⟩
      cases l1 with
      | nil =>
        simp only [List.nil_append, List.cons.injEq] at he
        obtain ⟨rfl, rfl⟩ := he
        exact ⟨_, h, x.2, k5, hs0 hT, hs1 hT, k6, .inl ⟨hw, x.1, by rw [← a1]; exact h1, k4⟩⟩
      | cons z l1 =>
        simp only [List.cons_append, List.cons.injEq] at he
        obtain ⟨rfl, rfl⟩ := he
        have := k7 l1 y l2 rfl
        simp only [effOf, List.length_cons]
        have e : S.length + ((effOf l1).length + 1) = S.length + 1 + (effOf l1).length := by omega
        rw [e]; exact this
    · rename_i hw
      obtain ⟨k1, k2, ⟨T, hT⟩, k3, k4, k5, k6, k7⟩ := key (.tup []) (alsRun als fr h).2 hr
      refine ⟨k1, k2, ⟨[(alsRun als fr h).2] ++ T, by rw [hT]; simp⟩, k3, fun l1 y l2 he => ?_⟩
      cases l1 with
      | nil =>
        simp only [List.nil_append, List.cons.injEq] at he
        obtain ⟨rfl, rfl⟩ := he
        exact ⟨_, h, _, k5, hs0 hT, hs1 hT, k6, .inr ⟨hw, a1, k4⟩⟩
      | cons z l1 =>
        simp only [List.cons_append, List.cons.injEq] at he
        obtain ⟨rfl, rfl⟩ := he
        have := k7 l1 y l2 rfl
        simp only [effOf, List.length_cons]
        have e : S.length + ((effOf l1).length + 1) = S.length + 1 + (effOf l1).length := by omega
        rw [e]; exact this
    · cases hr

theorem win_spec {call : CallF} {sn : List AH} : ∀ {CK : List Ck}, winOK call sn CK = true → ∀ c ∈ CK, ∀ k H, c.lo ≤ k → k < c.lo + c.n → sn[k]? = some H → winAt call c H = true
  | [], _, c, hm, _, _, _, _, _ => by cases hm
  | y :: CK, hr, c, hm, k, H, h1, h2, h3 => by
    simp only [winOK, Bool.and_eq_true, List.all_eq_true] at hr
    rcases List.mem_cons.1 hm with rfl | hm
    · refine hr.1 H (List.mem_of_getElem? (i := k - c.lo) ?_)
      rw [List.getElem?_take_of_lt (by omega), List.getElem?_drop]
      rw [← h3]; congr 1; omega
    · exact win_spec hr.2 c hm k H h1 h2 h3

end Go.Proofs.YtfahpmlckobpmaaGreatDoor.Pi
/-
  Variables that are made early: kept apart, and taken up later.
-/
namespace Go.Proofs.YtfahpmlckobpmaaGreatDoor.Pi
open Go

section
variable {P : Program} {g : G} {h : AH} {W : World}

/-- a zero value's cells -/
def ZLay (z : List AV) (c : Array Value) : Prop :=
  (∀ av ∈ z, av.isCell = true) ∧ z.length = c.size ∧ ∀ (g : G) (W : World) (V : Nat → Nat → Prop) (i : Nat) (av : AV) (x : Value), z[i]? = some av → c[i]? = some x → VRel g W V av x

theorem run_alloc {t : TypeId} {z : List AV} (hz : zeroOK P t z = true) (old : Value) :
    ∃ c, (Instr.alloc t true old).run P W = .ok (.pointer (some ⟨W.heap.size, 0, none⟩)) (W.alloc (.cells c t)) ∧ ZLay z c := by
  obtain ⟨v, h1, h2, h3, h4, _⟩ := run_zero (P := P) (W := W) hz
  refine ⟨v.cells, ?_, h2, h3, h4⟩
  have : (Instr.alloc t true old).run P W = ((zeroValue t).run P W).andThen fun z w => ((newVar t z).run P w).andThen fun a w => .ok (.pointer (some a)) w := by
    unfold Instr.alloc
    cases old <;> (try rename_i a; cases a) <;> simp [Sem.run_bind]
  rw [this, h1]
  simp [newVar, newRow, run_newObj]

theorem reserve_sound (hr : HRel g h W) (o : Obj) :
    ∃ g', g'.mb = g.mb ∧ g'.cp = g.cp ∧ (∀ b, g'.rs b ↔ g.rs b ∨ b = W.heap.size) ∧ HRel g' h (W.alloc o) ∧ Keeps W (U g h) (W.alloc o) (U g' h) ∧ GLe g g' := by
  let g' : G := ⟨g.mb, g.cp, fun b => g.rs b ∨ b = W.heap.size⟩
  have m : More W (W.alloc o) := (More.refl W).alloc o
  have hgle : GLe g g' := fun _ _ hx => ⟨hx, rfl⟩
  have hk : Keeps W (U g h) (W.alloc o) (U g' h) := fun b o' v hu hc => ⟨⟨fun hrs => by
    rcases hrs with hrs | hrs
    · exact hu.1 hrs
    · have := lt_of_cell hc; omega, hu.2⟩, m.cell hc⟩
  refine ⟨g', rfl, rfl, fun b => Iff.rfl, ⟨hr.dom, fun id b hb => (hr.blk id b hb).mono hk hgle fun x y z hm => ?_, hr.apart, hr.esc, fun b hb => ?_, fun id b r x z hi hm hrs => ?_, fun p hp => hk _ _ _ (hr.gl p hp).1 (hr.gl p hp).2⟩, hk, hgle⟩
  · obtain ⟨x', y', z', hm', hlt⟩ := hr.mb hb
    rw [hm] at hm'; simp at hm'; obtain ⟨rfl, _, _⟩ := hm'
    exact m.same x hlt
  · rcases hb with hb | hb
    · exact Nat.lt_of_lt_of_le (hr.res b hb) m.size
    · subst hb; show _ < (W.heap.push o).size; simp
  · rcases hrs with hrs | hrs
    · exact hr.own id b r x z hi hm hrs
    · obtain ⟨x', y', z', hm', hlt⟩ := hr.mb hi
      rw [hm] at hm'; simp at hm'; obtain ⟨rfl, _, _⟩ := hm'
      omega

theorem adopt_sound (hr : HRel g h W) {b : Nat} (hb : g.rs b) {z : List AV} {c : Array Value} {t : TypeId} (hh : W.heap[b]? = some (.cells c t (0, 0))) (hz : ZLay z c) :
    ∃ g', (∀ x, g'.rs x ↔ g.rs x ∧ x ≠ b) ∧ HRel g' (h.push (.rows z.length [z])) W ∧ Keeps W (U g h) W (U g' (h.push (.rows z.length [z]))) ∧ GLe g g' ∧ g'.mb h.bl.length = some (b, 0, z.length) ∧
      ∀ (rs : Nat → Prop) (x o : Nat), x ≠ b → U { g with rs := rs } h x o → U { g' with rs := rs } (h.push (.rows z.length [z])) x o := by
  let g' : G := ⟨fun id => if id = h.bl.length then some (b, 0, z.length) else g.mb id, fun id => if id = h.bl.length then 1 else g.cp id, fun x => g.rs x ∧ x ≠ b⟩
  have hgle : GLe g g' := fun id y hy => by
    have : id ≠ h.bl.length := fun e => by subst e; rw [hr.dom _ (Nat.le_refl _)] at hy; cases hy
    simp [g', this, hy]
  have hnew : g'.mb h.bl.length = some (b, 0, z.length) := by simp [g']
  have howned : ∀ {id : Nat} {blk : ABlk} {r x zz : Nat}, h.get id = some blk → g.mb id = some (r, x, zz) → r ≠ b := fun hi hm e => hr.own _ _ _ _ _ hi hm (e ▸ hb)
  have hold : ∀ {id : Nat} {blk : ABlk} {r x zz : Nat}, id ≠ h.bl.length → g'.mb id = some (r, x, zz) → g.mb id = some (r, x, zz) := fun hid hm => by simpa [g', hid] using hm
  have hUU : ∀ (rs1 rs2 : Nat → Prop) x o, x ≠ b → (¬ rs1 x → ¬ rs2 x) → U { g with rs := rs1 } h x o → U { g' with rs := rs2 } (h.push (.rows z.length [z])) x o := fun rs1 rs2 x o hxb hrs hu => ⟨hrs hu.1, fun id blk hi ho => by
    rw [get_push] at hi
    obtain ⟨r, y, zz, hm, he, hp⟩ := ho
    split at hi
    · rename_i e; subst e
      have hm' : g'.mb h.bl.length = some (r, y, zz) := hm
      rw [hnew] at hm'; simp at hm'; exact hxb (he.trans hm'.1.symm)
    · rename_i hid
      exact hu.2 id blk hi ⟨r, y, zz, hold (blk := blk) hid hm, he, hp⟩⟩
  have hk : Keeps W (U g h) W (U g' (h.push (.rows z.length [z]))) := fun x o v hu hc => ⟨hUU g.rs g'.rs x o (fun e => hu.1 (e ▸ hb)) (fun h1 h2 => h1 h2.1) hu, hc⟩
  refine ⟨g', fun x => Iff.rfl, ⟨?_, ?_, ?_, ?_, fun x hx => hr.res x hx.1, ?_, fun p hp => hk _ _ _ (hr.gl p hp).1 (hr.gl p hp).2⟩, hk, hgle, hnew, fun rs x o hxb hu => hUU rs rs x o hxb (fun h => h) hu⟩
  · intro id hid
    have h1 : h.bl.length + 1 ≤ id := by simpa [AH.push] using hid
    have h2 : id ≠ h.bl.length := by omega
    simp [g', h2, hr.dom id (by omega)]
  · intro id blk hi
    rw [get_push] at hi
    split at hi
    · rename_i e; subst e; simp at hi; subst hi
      refine ⟨b, 0, c, t, hnew, hh, ?_, fun row e he => ?_⟩
      · have : g'.cp h.bl.length = 1 := by simp [g']
        rw [this, ← hz.2.1]; omega
      · cases row with
        | zero =>
          simp at he; subst he
          refine ⟨⟨rfl, hz.1⟩, fun j av hj => ?_⟩
          have hlt : j < c.size := by rw [← hz.2.1]; exact (List.getElem?_eq_some_iff.1 hj).1
          exact ⟨c[j], by simp [hlt], hz.2.2 _ _ _ j av _ hj (by simp [hlt])⟩
        | succ row => simp at he
    · exact (hr.blk id blk hi).mono hk hgle fun _ _ _ _ => rfl
  · intro i j bi bj ri xi zi rj xj zj hij hi hj hmi hmj
    rw [get_push] at hi hj
    by_cases hil : i = h.bl.length
    · have hjl : j ≠ h.bl.length := fun e => hij (hil.trans e.symm)
      simp only [hjl, if_false] at hj
      rw [hil, hnew] at hmi; simp at hmi; obtain ⟨rfl, _, _⟩ := hmi
      exact (howned hj (hold (blk := bj) hjl hmj)).symm
    · simp only [hil, if_false] at hi
      by_cases hjl : j = h.bl.length
      · rw [hjl, hnew] at hmj; simp at hmj; obtain ⟨rfl, _, _⟩ := hmj
        exact howned hi (hold (blk := bi) hil hmi)
      · simp only [hjl, if_false] at hj
        exact hr.apart i j bi bj ri xi zi rj xj zj hij hi hj (hold (blk := bi) hil hmi) (hold (blk := bj) hjl hmj)
  · intro id blk hi q hq
    rw [get_push] at hi
    split at hi
    · rename_i e; subst e; simp at hi; subst hi
      simp [blkRefs] at hq
      obtain ⟨a, ha, hq'⟩ := refsL_mem.1 hq
      obtain ⟨i, hi⟩ := List.mem_iff_getElem?.1 ha
      have hlt : i < c.size := by rw [← hz.2.1]; exact (List.getElem?_eq_some_iff.1 hi).1
      exact .inl (Nat.le_of_lt (refs_lt hr (hz.2.2 g W (U g h) i a c[i] hi (by simp [hlt])) q hq'))
    · exact hr.esc id blk hi q hq
  · intro id blk r x zz hi hm hrs
    rw [get_push] at hi
    split at hi
    · rename_i e; subst e
      rw [hnew] at hm; simp at hm; exact hrs.2 hm.1.symm
    · rename_i hid
      exact hr.own id blk r x zz hi (hold (blk := blk) hid hm) hrs.1

/-- what a region has left so far: but for the blocks that are kept apart -/
def ExtR (g : G) (h : AH) (W : World) (g' : G) (h' : AH) (W' : World) : Prop :=
  Ext g h W { g' with rs := g.rs } h' W' ∧ (∀ b, g'.rs b → g.rs b ∨ W.heap.size ≤ b) ∧ ∀ b, g.rs b → g'.rs b

theorem ExtR.refl : ExtR g h W g h W := ⟨Ext.refl _ _ _, fun _ h => .inl h, fun _ h => h⟩

theorem ExtR.step {g1 g2 : G} {h1 h2 : AH} {W1 W2 : World} (a : ExtR g h W g1 h1 W1) (b : Ext g1 h1 W1 g2 h2 W2) : ExtR g h W g2 h2 W2 := by
  obtain ⟨e, r1, r2⟩ := a
  have hU : ∀ {x o : Nat}, x < W.heap.size → U { g1 with rs := g.rs } h1 x o → U g1 h1 x o := fun hx hu => ⟨fun hrs => by
    rcases r1 _ hrs with h | h
    · exact hu.1 h
    · omega, hu.2⟩
  have hV : ∀ {x o : Nat}, U g2 h2 x o → ¬ g.rs x → U { g2 with rs := g.rs } h2 x o := fun hu hn => ⟨hn, hu.2⟩
  refine ⟨⟨b.os.trans e.os, b.tape.trans e.tape, b.output.trans e.output, Nat.le_trans e.size b.size, ?_, ?_, ?_, ?_, rfl, ?_⟩, fun x hx => r1 x (by rw [← b.rs]; exact hx), fun x hx => by rw [b.rs]; exact r2 x hx⟩
  · exact fun id x hx => let ⟨p, q⟩ := e.gle id x hx; let ⟨s, t⟩ := b.gle id x p; ⟨s, t.trans q⟩
  · intro x o hx hu
    exact hV (b.free x o (Nat.lt_of_lt_of_le hx e.size) (hU hx (e.free x o hx hu))) hu.1
  · intro x o v hu hc
    have hx := lt_of_cell hc
    exact b.cell x o v (hU hx (e.free x o hx hu)) (e.cell x o v hu hc)
  · intro x hx hu
    exact (b.obj x (Nat.lt_of_lt_of_le hx e.size) fun o => hU hx (e.free x o hx (hu o))).trans (e.obj x hx hu)
  · intro x hx
    exact (b.kept x (r2 x hx)).trans (e.kept x hx)

theorem ExtR.reserve (h0 : ∀ b, g.rs b → b < W.heap.size) {g1 g2 : G} {h1 : AH} {W1 : World} (a : ExtR g h W g1 h1 W1) (o : Obj) (hmb : g2.mb = g1.mb) (hcp : g2.cp = g1.cp) (hrs : ∀ b, g2.rs b ↔ g1.rs b ∨ b = W1.heap.size) : ExtR g h W g2 h1 (W1.alloc o) := by
  obtain ⟨e, r1, r2⟩ := a
  have m : More W1 (W1.alloc o) := (More.refl W1).alloc o
  have eg : ({ g2 with rs := g.rs } : G) = { g1 with rs := g.rs } := by cases g2; cases g1; simp_all
  refine ⟨?_, fun b hb => ?_, fun b hb => (hrs b).2 (.inl (r2 b hb))⟩
  · rw [eg]
    refine ⟨m.os.trans e.os, m.tape.trans e.tape, m.output.trans e.output, Nat.le_trans e.size m.size, e.gle, e.free, fun x o v hu hc => m.cell (e.cell x o v hu hc), fun x hx hu => ?_, rfl, fun x hx => ?_⟩
    · exact (m.same x (Nat.lt_of_lt_of_le hx e.size)).trans (e.obj x hx hu)
    · exact (m.same x (Nat.lt_of_lt_of_le (h0 x hx) e.size)).trans (e.kept x hx)
  · rcases (hrs b).1 hb with h | h
    · exact r1 b h
    · exact .inr (by have := e.size; omega)

theorem adopt_all (tmps : Array Value) (frN : Fr) (B : Nat → Nat) : ∀ (als : Als) {g1 : G} {h1 : AH} {W1 : World}, HRel g1 h1 W1 → ExtR g h W g1 h1 W1 → (als.map (·.1)).Nodup →
    (∀ al ∈ als, tmps.getD al.2.1 undef = .pointer (some ⟨B al.1, 0, none⟩) ∧ g1.rs (B al.1) ∧ ¬ g.rs (B al.1) ∧ ∃ c t, W1.heap[B al.1]? = some (.cells c t (0, 0)) ∧ ZLay al.2.2 c) →
    (∀ al ∈ als, ∀ al' ∈ als, al.1 ≠ al'.1 → B al.1 ≠ B al'.1) → AlsF frN als h1 →
    ∃ g2, HRel g2 (alsH als h1) W1 ∧ Keeps W1 (U g1 h1) W1 (U g2 (alsH als h1)) ∧ GLe g1 g2 ∧ ExtR g h W g2 (alsH als h1) W1 ∧ (∀ x, g2.rs x ↔ g1.rs x ∧ ∀ al ∈ als, x ≠ B al.1) ∧
      ∀ al ∈ als, VRel g2 W1 (U g2 (alsH als h1)) (fget frN al.2.1) (tmps.getD al.2.1 undef)
  | [], g1, h1, W1, hr, he, _, _, _, _ => ⟨g1, hr, Keeps.refl _ _, GLe.refl _, he, fun x => by simp, fun al h => by cases h⟩
  | (ix, d, z) :: als, g1, h1, W1, hr, he, hn, hres, hdis, hf => by
    simp only [List.map_cons, List.nodup_cons] at hn
    obtain ⟨r1, r2, r3, c, t, r4, r5⟩ := hres (ix, d, z) (by simp)
    obtain ⟨g2, a1, a2, a3, a4, a5, a6⟩ := adopt_sound hr r2 r4 r5
    obtain ⟨e, q1, q2⟩ := he
    have he2 : ExtR g h W g2 (h1.push (.rows z.length [z])) W1 := by
      refine ⟨⟨e.os, e.tape, e.output, e.size, fun id x hx => let ⟨p, q⟩ := e.gle id x hx; let ⟨s, t⟩ := a4 id x p; ⟨s, t.trans q⟩, fun x o hx hu => ?_, e.cell, e.obj, rfl, e.kept⟩, fun x hx => q1 x ((a1 x).1 hx).1, fun x hx => (a1 x).2 ⟨q2 x hx, fun hxb => r3 (hxb ▸ hx)⟩⟩
      refine a6 g.rs x o (fun hxb => ?_) (e.free x o hx hu)
      subst hxb
      rcases q1 _ r2 with h | h
      · exact r3 h
      · omega
    have hne : ∀ al ∈ als, B al.1 ≠ B ix := fun al hal => hdis al (by simp [hal]) (ix, d, z) (by simp) fun e => hn.1 (List.mem_map.2 ⟨al, hal, e⟩)
    obtain ⟨g3, b1, b2, b3, b4, b5, b6⟩ := adopt_all tmps frN B als a2 he2 hn.2 (fun al hal => by
      obtain ⟨s1, s2, s3, s4⟩ := hres al (by simp [hal])
      exact ⟨s1, (a1 _).2 ⟨s2, hne al hal⟩, s3, s4⟩) (fun al hal al' hal' => hdis al (by simp [hal]) al' (by simp [hal'])) hf.2
    refine ⟨g3, b1, a3.trans b2, a4.trans b3, b4, fun x => ?_, fun al hal => ?_⟩
    · rw [b5, a1]
      constructor
      · rintro ⟨⟨p, q⟩, r⟩
        refine ⟨p, fun al hal => ?_⟩
        rcases List.mem_cons.1 hal with rfl | hal
        · exact q
        · exact r al hal
      · rintro ⟨p, q⟩
        exact ⟨⟨p, q (ix, d, z) (by simp)⟩, fun al hal => q al (by simp [hal])⟩
    · rcases List.mem_cons.1 hal with rfl | hal
      · have hp : VRel g2 W1 (U g2 (h1.push (.rows z.length [z]))) (.ptr h1.bl.length 0 0) (.pointer (some ⟨B ix, 0 + 0 * z.length + 0, none⟩)) := .ptr _ _ _ _ _ _ a5
        show VRel g3 W1 _ (fget frN d) (tmps.getD d undef)
        rw [hf.1, r1]
        simpa [AH.next, alsH] using hp.mono b2 b3
      · exact b6 al hal

end
end Go.Proofs.YtfahpmlckobpmaaGreatDoor.Pi
/-
  Regions in whatever order: what is kept, and the region's law.
-/
namespace Go.Proofs.YtfahpmlckobpmaaGreatDoor.Pi
open Go

/-- must j have come before i? -/
def reach (ops : Array Oper) : Nat → Nat → Nat → Bool
  | 0, _, _ => false
  | n + 1, i, j => match ops[i]? with
    | some o => o.after.toList.any fun e => Region.binds .any e && ((e.on == j) || reach ops n e.on j)
    | none => false

def useOK (ops : Array Oper) (items : List (Nat × AOper)) (D later : List Nat) (ix t : Nat) : Bool :=
  !D.contains t || items.any fun q => decide (q.2.dst = some t) && (if later.contains t then (q.1 == ix) || reach ops 9 q.1 ix else reach ops 9 ix q.1)

def winReq (ops : Array Oper) (effs : List Nat) (ix lo n : Nat) : Bool :=
  ((lo == 0) || (match effs[lo - 1]? with | some e => reach ops 9 ix e | none => false)) && (match effs[lo + n - 1]? with | some e => reach ops 9 e ix | none => true) && decide (0 < n)

def chkEl (P : Program) (nt : Nat) (ops : Array Oper) (items : List (Nat × AOper)) (D effs : List Nat) (s : Nat) (prev : Option Nat) (kn later : List Nat) : DOp → Bool
  | .val ix w o =>
    o.op.isVal && (usesOf o).all (fun t => useOK ops items D later ix t) && (o.op.isPure || (match w with | some (lo, n) => winReq ops effs ix lo n | none => winReq ops effs ix s 1)) &&
    (match ops[ix]? with | some o' => chkOper P nt ops o o' | none => false)
  | .eff als ix o =>
    (als.all fun al => reach ops 9 ix al.1) && (usesOf o).all (fun t => useOK ops items D later ix t || (kn ++ adst als).contains t) && (match prev with | some e => reach ops 9 ix e | none => true) &&
    (match ops[ix]? with | some o' => chkOper P nt ops o o' | none => false)

def nextP : Option Nat → DOp → Option Nat
  | p, .val _ _ _ => p
  | _, .eff _ ix _ => some ix
def isEff : DOp → Nat
  | .val _ _ _ => 0
  | .eff _ _ _ => 1

def chkDs (P : Program) (nt : Nat) (ops : Array Oper) (items : List (Nat × AOper)) (D effs : List Nat) : Nat → Option Nat → List Nat → List DOp → Bool
  | _, _, _, [] => true
  | s, prev, kn, x :: r => chkEl P nt ops items D effs s prev kn ((elOper x).dst.toList ++ dsts r) x && chkDs P nt ops items D effs (s + isEff x) (nextP prev x) (kn ++ adst (elAls x)) r

def nodupB : List Nat → Bool
  | [] => true
  | x :: r => !r.contains x && nodupB r

theorem nodupB_iff : ∀ {l : List Nat}, nodupB l = true → l.Nodup
  | [], _ => List.nodup_nil
  | x :: r, h => by
    simp only [nodupB, Bool.and_eq_true, Bool.not_eq_true', ← Bool.not_eq_true, List.contains_iff_mem] at h
    exact List.nodup_cons.2 ⟨h.1, nodupB_iff h.2⟩

def chkAl (P : Program) (nt : Nat) (ops : Array Oper) (al : Nat × Nat × List AV) : Bool :=
  match ops[al.1]? with
  | some o => decide (o.dst = some al.2.1) && decide (al.2.1 < nt) && o.guard.isNone && (match o.op with | .alloc t => zeroOK P t al.2.2 | _ => false)
  | none => false

def chkRegd (P : Program) (nt : Nat) (ds : List DOp) (tail : Als) (ops : Array Oper) : Bool :=
  let ixs := (opsOf ds).map (·.1) ++ (alsOf ds ++ tail).map (·.1)
  P.follows .mixedOrders &&
  nodupB ixs && ((List.range ops.size).all fun i => ixs.contains i) &&
  nodupB (dsts ds ++ adst tail) && ((alsOf ds ++ tail).all fun al => chkAl P nt ops al) &&
  ((List.range ops.size).all fun i => match ops[i]? with | some o => o.after.toList.all fun e => !Region.binds .any e || decide (e.on < i) | none => false) &&
  chkDs P nt ops (opsOf ds) (dsts ds ++ adst tail) (effOf ds) 0 none [] ds

def lastP (p : Option Nat) (l : List DOp) : Option Nat := l.foldl nextP p

theorem chk_split {P : Program} {nt : Nat} {ops : Array Oper} {items : List (Nat × AOper)} {D effs : List Nat} : ∀ (l1 : List DOp) (s : Nat) (prev : Option Nat) (kn : List Nat) (x : DOp) (l2 : List DOp),
    chkDs P nt ops items D effs s prev kn (l1 ++ x :: l2) = true → chkEl P nt ops items D effs (s + (effOf l1).length) (lastP prev l1) (kn ++ adst (alsOf l1)) ((elOper x).dst.toList ++ dsts l2) x = true
  | [], s, prev, kn, x, l2, h => by
    simp only [List.nil_append, chkDs, Bool.and_eq_true] at h
    simpa [effOf, lastP, alsOf, adst] using h.1
  | y :: l1, s, prev, kn, x, l2, h => by
    simp only [List.cons_append, chkDs, Bool.and_eq_true] at h
    have := chk_split l1 _ _ _ x l2 h.2
    cases y with
    | val i w o => simpa [effOf, lastP, nextP, alsOf, adst, isEff, elAls] using this
    | eff als i o =>
      have e : s + 1 + (effOf l1).length = s + ((effOf l1).length + 1) := by omega
      simpa [effOf, lastP, nextP, alsOf, adst, isEff, elAls, List.append_assoc, e] using this

/-- the last effect before a place -/
theorem lastP_eff : ∀ (l : List DOp) (p : Option Nat), (∃ i, i ∈ effOf l) → ∃ i, i ∈ effOf l ∧ lastP p l = some i
  | [], _, ⟨i, h⟩ => by cases h
  | .val ix w o :: l, p, ⟨i, h⟩ => by
    obtain ⟨j, h1, h2⟩ := lastP_eff l p ⟨i, h⟩
    exact ⟨j, h1, h2⟩
  | .eff als ix o :: l, p, _ => by
    by_cases hl : ∃ i, i ∈ effOf l
    · obtain ⟨j, h1, h2⟩ := lastP_eff l (some ix) hl
      exact ⟨j, by simp [effOf, h1], h2⟩
    · refine ⟨ix, by simp [effOf], ?_⟩
      have : ∀ (l : List DOp) (p : Option Nat), (¬ ∃ i, i ∈ effOf l) → lastP p l = p := by
        intro l
        induction l with
        | nil => intro p _; rfl
        | cons y l ih =>
          intro p hn
          cases y with
          | val i w o => exact ih p hn
          | eff als i o => exact absurd ⟨i, by simp [effOf]⟩ hn
      exact this l (some ix) hl

section
variable {P : Program}

def Lst (listed : Array Bool) (i : Nat) : Prop := listed.getD i false = true

def Closed (ops : Array Oper) (listed : Array Bool) : Prop := ∀ i o, Lst listed i → ops[i]? = some o → ∀ e ∈ o.after, Region.binds .any e = true → Lst listed e.on

theorem reach_closed {ops : Array Oper} {listed : Array Bool} (hc : Closed ops listed) : ∀ {n i j : Nat}, (∀ o, ops[i]? = some o → ∀ e ∈ o.after, Region.binds .any e = true → Lst listed e.on) → reach ops n i j = true → Lst listed j
  | 0, _, _, _, h => by simp [reach] at h
  | n + 1, i, j, hp, h => by
    simp only [reach] at h
    split at h
    · rename_i o ho
      obtain ⟨e, he, h2⟩ := List.any_eq_true.1 h
      simp only [Bool.and_eq_true, Bool.or_eq_true, beq_iff_eq] at h2
      have hl := hp o ho e (by simpa using he) h2.1
      rcases h2.2 with h3 | h3
      · exact h3 ▸ hl
      · exact reach_closed hc (fun o' ho' => hc e.on o' hl ho') h3
    · cases h

theorem Lst_set {listed : Array Bool} {i j : Nat} (hi : i < listed.size) : Lst (listed.setIfInBounds i true) j ↔ j = i ∨ Lst listed j := by
  unfold Lst
  by_cases hij : i = j
  · subst hij; simp [hi]
  · simp [Array.getElem?_setIfInBounds_ne hij, Ne.symm hij]

/-- what is kept while the region runs -/
structure Inv (P : Program) (call : CallF) (ops : Array Oper) (nt : Nat) (ds : List DOp) (tail : Als) (fr0 frN : Fr) (SN : List AH) (g0 : G) (h0 : AH) (W0 : World) (listed : Array Bool) (a : Act) (W : World) : Prop where
  size : listed.size = ops.size
  closed : Closed ops listed
  tmps : a.tmps.size = nt
  defers : a.defers = []
  rest : ∃ (g : G) (H : AH) (pre rem : List DOp) (B : Nat → Nat), ds = pre ++ rem ∧ SN[(effOf pre).length]? = some H ∧ HRel g H W ∧ ExtR g0 h0 W0 g H W ∧
    (∀ i ∈ effOf pre, Lst listed i) ∧ (∀ i ∈ effOf rem, ¬ Lst listed i) ∧
    (∀ t, ((∃ q ∈ opsOf ds, q.2.dst = some t ∧ Lst listed q.1) ∨ t ∈ adst (alsOf pre)) → VRel g W (U g H) (fget frN t) (a.tmps.getD t undef)) ∧
    (∀ t, (∀ q ∈ opsOf ds, q.2.dst = some t → ¬ Lst listed q.1) → t ∉ adst (alsOf ds ++ tail) → VRel g W (U g H) (fget fr0 t) (a.tmps.getD t undef)) ∧
    (∀ al ∈ alsOf rem ++ tail, Lst listed al.1 → a.tmps.getD al.2.1 undef = .pointer (some ⟨B al.1, 0, none⟩) ∧ g.rs (B al.1) ∧ ¬ g0.rs (B al.1) ∧ ∃ c t, W.heap[B al.1]? = some (.cells c t (0, 0)) ∧ ZLay al.2.2 c) ∧
    (∀ al ∈ alsOf rem ++ tail, ∀ al' ∈ alsOf rem ++ tail, Lst listed al.1 → Lst listed al'.1 → al.1 ≠ al'.1 → B al.1 ≠ B al'.1)

end
end Go.Proofs.YtfahpmlckobpmaaGreatDoor.Pi
/-
  Regions in whatever order: the region's law.
-/
namespace Go.Proofs.YtfahpmlckobpmaaGreatDoor.Pi
open Go

theorem fget_kept {keep : List Nat} {fr : Fr} {i : Nat} : fget (keepFr keep fr) i = if i ∈ keep then fget fr i else .any := by
  induction keep with
  | nil => simp [keepFr, fget]
  | cons x keep ih =>
    simp only [keepFr, List.map_cons, fget] at ih ⊢
    by_cases hx : x = i
    · subst hx; simp
    · simp only [hx, if_false, ih, List.mem_cons, Ne.symm hx, false_or]

theorem wanted_op {P : Program} {ops : Array Oper} {i : Nat} {o : Oper} {a : Act} {W : World} {Q : Exit → Act → World → Prop} {K : Act → World → Prop} (ho : ops[i]? = some o) (hw : Region.wanted o (yielded ops a.tmps) = true)
    (h : o.wp P a W K Q) : wpOp P ops Q i K a W := by
  unfold wpOp; simp only [ho, hw, if_true]; exact .inl h
theorem unwanted_op {P : Program} {ops : Array Oper} {i : Nat} {o : Oper} {a : Act} {W : World} {Q : Exit → Act → World → Prop} {K : Act → World → Prop} (ho : ops[i]? = some o) (hw : Region.wanted o (yielded ops a.tmps) = false)
    (h : K (a.put o.dst undef) W) : wpOp P ops Q i K a W := by
  unfold wpOp; simp only [ho, hw, Bool.false_eq_true, if_false]; exact h

theorem getD_put_ne {a : Act} {d : Option Nat} {x : Value} {t : Nat} (h : d ≠ some t) : (a.put d x).tmps.getD t undef = a.tmps.getD t undef := by
  cases d with
  | none => rfl
  | some d =>
    have : d ≠ t := fun e => h (by rw [e])
    simp [Act.put, Array.getElem?_setIfInBounds_ne this]
theorem getD_put_self {a : Act} {d : Nat} {x : Value} (h : d < a.tmps.size) : (a.put (some d) x).tmps.getD d undef = x := by simp [Act.put, h]

section
variable {P : Program} {call : CallF} {ops : Array Oper} {nt : Nat} {ds : List DOp} {tail : Als} {fr0 frN : Fr} {SN : List AH} {g0 : G} {h0 : AH} {W0 : World} {listed : Array Bool} {a : Act} {W : World}

def Known (ds : List DOp) (listed : Array Bool) (pre : List DOp) (t : Nat) : Prop :=
  (∃ q ∈ opsOf ds, q.2.dst = some t ∧ Lst listed q.1) ∨ t ∈ adst (alsOf pre)
def Olden (ds : List DOp) (tail : Als) (listed : Array Bool) (t : Nat) : Prop :=
  (∀ q ∈ opsOf ds, q.2.dst = some t → ¬ Lst listed q.1) ∧ t ∉ adst (alsOf ds ++ tail)

def ResAt (g : G) (g0 : G) (W : World) (tmps : Array Value) (B : Nat → Nat) (al : Nat × Nat × List AV) : Prop :=
  tmps.getD al.2.1 undef = .pointer (some ⟨B al.1, 0, none⟩) ∧ g.rs (B al.1) ∧ ¬ g0.rs (B al.1) ∧ ∃ c t, W.heap[B al.1]? = some (.cells c t (0, 0)) ∧ ZLay al.2.2 c

theorem op_of_ix (hn : ((opsOf ds).map (·.1) ++ (alsOf ds ++ tail).map (·.1)).Nodup) {q q' : Nat × AOper} (h : q ∈ opsOf ds) (h' : q' ∈ opsOf ds) (e : q.1 = q'.1) : q = q' := by
  have h1 := (List.nodup_append.1 hn).1
  generalize opsOf ds = l at *
  clear hn
  induction l with
  | nil => cases h
  | cons x l ih =>
    simp only [List.map_cons, List.nodup_cons] at h1
    rcases List.mem_cons.1 h with rfl | h2
    · rcases List.mem_cons.1 h' with rfl | h3
      · rfl
      · exact absurd (List.mem_map.2 ⟨q', h3, e.symm⟩) h1.1
    · rcases List.mem_cons.1 h' with rfl | h3
      · exact absurd (List.mem_map.2 ⟨q, h2, e⟩) h1.1
      · exact ih h2 h3 h1.2

theorem al_ne (hn : ((opsOf ds).map (·.1) ++ (alsOf ds ++ tail).map (·.1)).Nodup) {q : Nat × AOper} (h : q ∈ opsOf ds) {al : Nat × Nat × List AV} (h' : al ∈ alsOf ds ++ tail) : q.1 ≠ al.1 := fun e =>
  (List.nodup_append.1 hn).2.2 q.1 (List.mem_map.2 ⟨q, h, rfl⟩) al.1 (List.mem_map.2 ⟨al, h', rfl⟩) e

theorem dst_ne : ∀ {ds : List DOp}, (dsts ds ++ adst tail).Nodup → ∀ {q : Nat × AOper}, q ∈ opsOf ds → ∀ {al : Nat × Nat × List AV}, al ∈ alsOf ds ++ tail → q.2.dst ≠ some al.2.1
  | [], _, q, h, _, _ => by cases h
  | x :: r, hn, q, h, al, hal => fun he => by
    have hn' : (elDsts x ++ (dsts r ++ adst tail)).Nodup := by simpa [dsts] using hn
    obtain ⟨n1, n2, n3⟩ := List.nodup_append.1 hn'
    have hx : (elIx x, elOper x) = q ∨ q ∈ opsOf r := by
      cases x <;> (simp only [opsOf, List.mem_cons] at h; rcases h with h | h <;> first | exact .inl h.symm | exact .inr h)
    have ha : al ∈ elAls x ∨ al ∈ alsOf r ++ tail := by
      cases x with
      | val => exact .inr (by simpa [alsOf] using hal)
      | eff als i o =>
        simp only [alsOf, List.mem_append] at hal
        rcases hal with (h1 | h1) | h1
        · exact .inl h1
        · exact .inr (List.mem_append_left _ h1)
        · exact .inr (List.mem_append_right _ h1)
    have hr : ∀ {al : Nat × Nat × List AV}, al ∈ alsOf r ++ tail → al.2.1 ∈ dsts r ++ adst tail := fun h => by
      rcases List.mem_append.1 h with h | h
      · exact List.mem_append_left _ (dsts_als h)
      · exact List.mem_append_right _ (List.mem_map.2 ⟨_, h, rfl⟩)
    rcases hx with hx | hx
    · have hq : al.2.1 ∈ (elOper x).dst.toList := by rw [← hx] at he; simp only at he; simp [he]
      rcases ha with ha | ha
      · exact (List.nodup_append.1 n1).2.2 al.2.1 (List.mem_map.2 ⟨al, ha, rfl⟩) al.2.1 hq rfl
      · exact n3 al.2.1 (List.mem_append_right _ hq) al.2.1 (hr ha) rfl
    · rcases ha with ha | ha
      · exact n3 al.2.1 (List.mem_append_left _ (List.mem_map.2 ⟨al, ha, rfl⟩)) al.2.1 (List.mem_append_left _ (dsts_ops hx he)) rfl
      · exact dst_ne n2 hx ha he

theorem op_of_dst : ∀ {ds : List DOp}, (dsts ds).Nodup → ∀ {q q' : Nat × AOper} {t : Nat}, q ∈ opsOf ds → q' ∈ opsOf ds → q.2.dst = some t → q'.2.dst = some t → q = q'
  | [], _, q, _, _, h, _, _, _ => by cases h
  | x :: r, hn, q, q', t, h, h', e, e' => by
    simp only [dsts] at hn
    obtain ⟨n1, n2, n3⟩ := List.nodup_append.1 hn
    have hx : ∀ {q : Nat × AOper}, q ∈ opsOf (x :: r) → (elIx x, elOper x) = q ∨ q ∈ opsOf r := fun {q} h => by
      cases x <;> (simp only [opsOf, List.mem_cons] at h; rcases h with h | h <;> first | exact .inl h.symm | exact .inr h)
    have hown : ∀ {q : Nat × AOper}, (elIx x, elOper x) = q → q.2.dst = some t → t ∈ elDsts x := fun {q} hq hd => by
      rw [← hq] at hd; simp only at hd; simp [elDsts, hd]
    rcases hx h with h1 | h1
    · rcases hx h' with h2 | h2
      · exact h1.symm.trans h2
      · exact absurd rfl (n3 t (hown h1 e) t (dsts_ops h2 e'))
    · rcases hx h' with h2 | h2
      · exact absurd rfl (n3 t (hown h2 e') t (dsts_ops h1 e))
      · exact op_of_dst n2 h1 h2 e e'

theorem als_sub {pre rem : List DOp} {al : Nat × Nat × List AV} (h : al ∈ alsOf rem ++ tail) : al ∈ alsOf (pre ++ rem) ++ tail := by
  rw [alsOf_append]
  rcases List.mem_append.1 h with h | h
  · exact List.mem_append_left _ (List.mem_append_right _ h)
  · exact List.mem_append_right _ h

/-- behind an operation that is no variable's -/
theorem inv_next (hn : ((opsOf ds).map (·.1) ++ (alsOf ds ++ tail).map (·.1)).Nodup) (hdn : (dsts ds ++ adst tail).Nodup) (hsize : listed.size = ops.size) (hclosed : Closed ops listed) (htm : a.tmps.size = nt) (hdf : a.defers = [])
    {i : Nat} (hi : i < ops.size) {o' : Oper} (ho : ops[i]? = some o') (hready : ∀ e ∈ o'.after, Region.binds .any e = true → Lst listed e.on) {o : AOper} (hq : (i, o) ∈ opsOf ds) (hdst : o.dst = o'.dst) (hdlt : ∀ d, o.dst = some d → d < nt)
    {g' : G} {H' : AH} {W' : World} {pre rem : List DOp} {B : Nat → Nat} {x : Value} (hds : ds = pre ++ rem) (hSN : SN[(effOf pre).length]? = some H') (hr : HRel g' H' W') (he : ExtR g0 h0 W0 g' H' W')
    (hpre : ∀ j ∈ effOf pre, j = i ∨ Lst listed j) (hrem : ∀ j ∈ effOf rem, j ≠ i ∧ ¬ Lst listed j)
    (hkn : ∀ t, o.dst ≠ some t → Known ds listed pre t → VRel g' W' (U g' H') (fget frN t) (a.tmps.getD t undef)) (hold : ∀ t, o.dst ≠ some t → Olden ds tail listed t → VRel g' W' (U g' H') (fget fr0 t) (a.tmps.getD t undef)) (hx : ∀ t, o.dst = some t → VRel g' W' (U g' H') (fget frN t) x)
    (hres : ∀ al ∈ alsOf rem ++ tail, Lst listed al.1 → ResAt g' g0 W' a.tmps B al) (hB : ∀ al ∈ alsOf rem ++ tail, ∀ al' ∈ alsOf rem ++ tail, Lst listed al.1 → Lst listed al'.1 → al.1 ≠ al'.1 → B al.1 ≠ B al'.1) :
    Inv P call ops nt ds tail fr0 frN SN g0 h0 W0 (listed.setIfInBounds i true) (a.put o'.dst x) W' := by
  have hil : i < listed.size := by rw [hsize]; exact hi
  have hL : ∀ j, Lst (listed.setIfInBounds i true) j ↔ j = i ∨ Lst listed j := fun j => Lst_set hil
  have halL : ∀ al ∈ alsOf rem ++ tail, Lst (listed.setIfInBounds i true) al.1 → Lst listed al.1 := fun al hal hl => by
    rcases (hL _).1 hl with e | e
    · exact absurd e.symm (al_ne hn hq (by rw [hds]; exact als_sub hal))
    · exact e
  refine ⟨by simpa using hsize, fun j oj hj hoj e hm hb => ?_, by rw [size_put]; exact htm, by rw [defers_put]; exact hdf, g', H', pre, rem, B, hds, hSN, hr, he, fun j hj => (hL j).2 (hpre j hj), fun j hj hl => ?_, fun t ht => ?_, fun t ht hna => ?_, fun al hal hl => ?_, fun al hal al' hal' hl hl' => hB al hal al' hal' (halL al hal hl) (halL al' hal' hl')⟩
  · rcases (hL j).1 hj with rfl | hj
    · rw [ho] at hoj; simp at hoj; subst hoj
      exact (hL _).2 (.inr (hready e hm hb))
    · exact (hL _).2 (.inr (hclosed j oj hj hoj e hm hb))
  · rcases (hL j).1 hl with e | e
    · exact (hrem j hj).1 e
    · exact (hrem j hj).2 e
  · by_cases hot : o.dst = some t
    · rw [← hdst, hot, getD_put_self (by rw [htm]; exact hdlt t hot)]
      exact hx t hot
    · rw [← hdst, getD_put_ne hot]
      refine hkn t hot ?_
      rcases ht with ⟨q, h1, h2, h3⟩ | ht
      · rcases (hL _).1 h3 with e | e
        · have := op_of_ix hn h1 hq e
          subst this; exact absurd h2 hot
        · exact .inl ⟨q, h1, h2, e⟩
      · exact .inr ht
  · have hot : o.dst ≠ some t := fun hot => ht (i, o) hq hot ((hL i).2 (.inl rfl))
    rw [← hdst, getD_put_ne hot]
    exact hold t hot ⟨fun q h1 h2 h3 => ht q h1 h2 ((hL _).2 (.inr h3)), hna⟩
  · obtain ⟨r1, r2, r3, r4⟩ := hres al hal (halL al hal hl)
    refine ⟨?_, r2, r3, r4⟩
    rw [← hdst, getD_put_ne (dst_ne hdn hq (by rw [hds]; exact als_sub hal))]
    exact r1

end
end Go.Proofs.YtfahpmlckobpmaaGreatDoor.Pi
/-
  Regions in whatever order: the three kinds of steps.
-/
namespace Go.Proofs.YtfahpmlckobpmaaGreatDoor.Pi
open Go

theorem eff_index : ∀ {l1 : List DOp} {als : Als} {ix : Nat} {o : AOper} {l2 : List DOp}, (effOf (l1 ++ .eff als ix o :: l2))[(effOf l1).length]? = some ix := by
  intro l1 als ix o l2
  rw [effOf_append]
  simp [effOf]

theorem split_at {ds pre rem l1 l2 : List DOp} {x : DOp} (h1 : ds = pre ++ rem) (h2 : ds = l1 ++ x :: l2) (hk : (effOf l1).length ≥ (effOf pre).length) (hx : isEff x = 1) :
    ∃ r1, l1 = pre ++ r1 ∧ rem = r1 ++ x :: l2 := by
  have h : pre ++ rem = l1 ++ x :: l2 := h1.symm.trans h2
  rcases List.append_eq_append_iff.1 h with ⟨a, ha, hb⟩ | ⟨a, ha, hb⟩
  · exact ⟨a, ha, hb⟩
  · -- pre reaches behind x
    cases a with
    | nil => exact ⟨[], by simpa using ha.symm, by simpa using hb.symm⟩
    | cons y a =>
      exfalso
      simp only [List.cons_append, List.cons.injEq] at hb
      obtain ⟨rfl, _⟩ := hb
      subst ha
      cases x with
      | val => simp [isEff] at hx
      | eff als ix o => rw [effOf_append] at hk; simp [effOf] at hk; omega

section
variable {P : Program} {call : CallF} {ops : Array Oper} {nt : Nat} {ds : List DOp} {tail : Als} {fr0 frN : Fr} {CK : List Ck} {SN : List AH} {g0 : G} {h0 : AH} {W0 : World} {listed : Array Bool} {a : Act} {W : World}

theorem use_view {g : G} {H : AH} {t ix : Nat} {pre : List DOp} {later : List Nat} (hdn : (dsts ds ++ adst tail).Nodup) (hlat : ∀ t ∈ later, t ∈ dsts ds) (hN : ∀ t, t ∉ dsts ds → fget frN t = fget fr0 t) (hclosed : Closed ops listed) {o' : Oper} (ho : ops[ix]? = some o')
    (hready : ∀ e ∈ o'.after, Region.binds .any e = true → Lst listed e.on) (hun : ¬ Lst listed ix) (e7 : ∀ t, Known ds listed pre t → VRel g W (U g H) (fget frN t) (a.tmps.getD t undef))
    (e7b : ∀ t, Olden ds tail listed t → VRel g W (U g H) (fget fr0 t) (a.tmps.getD t undef))
    (h : useOK ops (opsOf ds) (dsts ds ++ adst tail) later ix t = true) : VRel g W (U g H) (if t ∈ later then fget fr0 t else fget frN t) (a.tmps.getD t undef) := by
  simp only [useOK, Bool.or_eq_true, Bool.not_eq_true', ← Bool.not_eq_true, List.contains_iff_mem] at h
  rcases h with h | h
  · have h1 : t ∉ dsts ds := fun hm => h (List.mem_append_left _ hm)
    have h2 : t ∉ later := fun hm => h1 (hlat t hm)
    rw [if_neg h2, hN t h1]
    refine e7b t ⟨fun q hq hd => absurd (dsts_ops hq hd) h1, fun hm => ?_⟩
    simp only [adst, List.map_append, List.mem_append] at hm
    rcases hm with hm | hm
    · obtain ⟨al, h3, rfl⟩ := List.mem_map.1 hm
      exact h1 (dsts_als h3)
    · exact h (List.mem_append_right _ hm)
  · obtain ⟨q, h1, h2⟩ := List.any_eq_true.1 h
    simp only [Bool.and_eq_true, decide_eq_true_eq] at h2
    obtain ⟨h2, h3⟩ := h2
    by_cases hl : t ∈ later
    · simp only [hl, if_true] at h3 ⊢
      have hq : ¬ Lst listed q.1 := fun hl => by
        simp only [Bool.or_eq_true, beq_iff_eq] at h3
        rcases h3 with h3 | h3
        · exact hun (h3 ▸ hl)
        · exact hun (reach_closed hclosed (fun o2 ho2 => hclosed q.1 o2 hl ho2) h3)
      refine e7b t ⟨fun q' hq' hd => ?_, fun hm => ?_⟩
      · rw [← op_of_dst (List.nodup_append.1 hdn).1 h1 hq' h2 hd]; exact hq
      · obtain ⟨al, h4, h5⟩ := List.mem_map.1 hm
        exact dst_ne hdn h1 h4 (by rw [h2, h5])
    · simp only [hl, if_false] at h3 ⊢
      exact e7 t (.inl ⟨q, h1, h2, reach_closed hclosed (fun o ho2 => by rw [ho] at ho2; simp at ho2; subst ho2; exact hready) h3⟩)

theorem later_sub {l1 l2 : List DOp} {x : DOp} (h : ds = l1 ++ x :: l2) : ∀ t ∈ (elOper x).dst.toList ++ dsts l2, t ∈ dsts ds := fun t ht => by rw [h]; exact dsts_mid ht

theorem step_val (hcall : CallS P call) (hn : ((opsOf ds).map (·.1) ++ (alsOf ds ++ tail).map (·.1)).Nodup) (hdn : (dsts ds ++ adst tail).Nodup)
    (hds : chkDs P nt ops (opsOf ds) (dsts ds ++ adst tail) (effOf ds) 0 none [] ds = true) (hT : ∀ l1 x l2, ds = l1 ++ x :: l2 → ElF call fr0 frN SN CK (effOf l1).length l2 x) (hN : ∀ t, t ∉ dsts ds → fget frN t = fget fr0 t) (hwin : winOK call SN CK = true)
    (I : Inv P call ops nt ds tail fr0 frN SN g0 h0 W0 listed a W) {l1 l2 : List DOp} {i : Nat} {w : Option (Nat × Nat)} {o : AOper} (hsp : ds = l1 ++ .val i w o :: l2) {o' : Oper} (ho : ops[i]? = some o')
    (hready : ∀ e ∈ o'.after, Region.binds .any e = true → Lst listed e.on) (hun : ¬ Lst listed i) {Q : Exit → Act → World → Prop} :
    wpOp P ops Q i (fun a' W' => Inv P call ops nt ds tail fr0 frN SN g0 h0 W0 (listed.setIfInBounds i true) a' W') a W := by
  obtain ⟨hsize, hclosed, htm, hdf, g, H, pre, rem, B, e1, e2, e3, e4, e5, e6, e7, e7b, e8, e9⟩ := I
  have hi : i < ops.size := Nat.lt_of_not_le fun hle => by simp [Array.getElem?_eq_none hle] at ho
  have hq : (i, o) ∈ opsOf ds := by rw [hsp, opsOf_append]; simp [opsOf]
  have hel := chk_split l1 0 none [] _ l2 (by rw [← hsp]; exact hds)
  simp only [chkEl, ho, Bool.and_eq_true, List.all_eq_true, Bool.or_eq_true] at hel
  obtain ⟨⟨⟨c1, c2⟩, c3⟩, c4⟩ := hel
  simp only [chkOper, Bool.and_eq_true, decide_eq_true_eq] at c4
  obtain ⟨⟨⟨k1, k2⟩, k3⟩, k4⟩ := c4
  have hdlt : ∀ d, o.dst = some d → d < nt := fun d hd => by rw [hd] at k3; simpa using k3
  have hreadyL : ∀ (j : Nat), reach ops 9 i j = true → Lst listed j := fun j hj => reach_closed hclosed (fun o2 ho2 => by rw [ho] at ho2; simp at ho2; subst ho2; exact hready) hj
  have hback : ∀ (j : Nat), reach ops 9 j i = true → ¬ Lst listed j := fun j hj hl => hun (reach_closed hclosed (fun o2 ho2 => hclosed j o2 hl ho2) hj)
  obtain ⟨f, Hs, hview, s1, s2⟩ := hT l1 _ l2 hsp
  have hused : ∀ t ∈ usesOf o, VRel g W (U g H) (fget f t) (a.tmps.getD t undef) := fun t ht => by
    rw [hview t]
    exact use_view hdn (later_sub hsp) hN hclosed ho hready hun e7 (fun t h => e7b t h.1 h.2) (c2 t ht)
  have hF : FRel g H W (keepFr (usesOf o) f) a.tmps := fun t => by
    rw [fget_kept]
    split
    · rename_i h; exact hused t h
    · exact .any _
  have hcg : ∀ t ∈ usesOf o, fget (keepFr (usesOf o) f) t = fget f t := fun t ht => by rw [fget_kept, if_pos ht]
  -- the effects that have come up are the first ones
  have heffk : ∀ (j e : Nat), (effOf ds)[j]? = some e → (Lst listed e ↔ j < (effOf pre).length) := fun j e hj => by
    rw [e1, effOf_append, List.getElem?_append] at hj
    split at hj
    · rename_i hlt; exact ⟨fun _ => hlt, fun _ => e5 e (List.mem_of_getElem? hj)⟩
    · rename_i hge; exact ⟨fun hl => absurd hl (e6 e (List.mem_of_getElem? hj)), fun hlt => absurd hlt hge⟩
  have hk_in : ∀ lo n, winReq ops (effOf ds) i lo n = true → lo ≤ (effOf pre).length ∧ (effOf pre).length < lo + n := fun lo n hw => by
    simp only [winReq, Bool.and_eq_true, Bool.or_eq_true, beq_iff_eq, decide_eq_true_eq] at hw
    obtain ⟨⟨w1, w2⟩, w3⟩ := hw
    refine ⟨?_, ?_⟩
    · rcases w1 with w1 | w1
      · omega
      · split at w1
        · rename_i e he
          have := (heffk _ _ he).1 (hreadyL e w1)
          omega
        · cases w1
    · split at w2
      · rename_i e he
        have h1 := hback e w2
        rw [heffk _ _ he] at h1
        omega
      · rename_i hno
        have h1 : (effOf ds).length ≤ lo + n - 1 := List.getElem?_eq_none_iff.1 hno
        rw [e1, effOf_append, List.length_append] at h1
        omega
  have fin : ∀ {x : Value} {g' : G} {W' : World}, HRel g' H W' → Ext g H W g' H W' → (∀ t, o.dst = some t → VRel g' W' (U g' H) (fget frN t) x) →
      Inv P call ops nt ds tail fr0 frN SN g0 h0 W0 (listed.setIfInBounds i true) (a.put o'.dst x) W' := fun {x g' W'} q1 q2 q3 =>
    inv_next hn hdn hsize hclosed htm hdf hi ho hready hq k2 hdlt (pre := pre) (rem := rem) (B := B) e1 e2 q1 (e4.step q2) (fun j hj => .inr (e5 j hj)) (fun j hj => ⟨fun e => by
        -- i is no effect
        have hje : j ∈ effOf ds := by rw [e1, effOf_append]; exact List.mem_append_right _ hj
        subst e
        rw [hsp, effOf_append] at hje
        have hnd : ((opsOf (l1 ++ .val j w o :: l2)).map (·.1)).Nodup := by rw [← hsp]; exact (List.nodup_append.1 hn).1
        rw [opsOf_append, List.map_append] at hnd
        obtain ⟨_, n2, n3⟩ := List.nodup_append.1 hnd
        have effsub : ∀ {l : List DOp} {j : Nat}, j ∈ effOf l → j ∈ (opsOf l).map (·.1) := by
          intro l
          induction l with
          | nil => intro j h; cases h
          | cons y l ih =>
            intro j h
            cases y with
            | val i' w' o2 => simp only [effOf] at h; simp only [opsOf, List.map_cons, List.mem_cons]; exact .inr (ih h)
            | eff als i' o2 =>
              simp only [effOf, List.mem_cons] at h
              simp only [opsOf, List.map_cons, List.mem_cons]
              rcases h with h | h
              · exact .inl h
              · exact .inr (ih h)
        simp only [effOf, List.mem_append] at hje
        simp only [opsOf, List.map_cons, List.nodup_cons] at n2
        rcases hje with hje | hje
        · exact n3 j (effsub hje) j (by simp [opsOf]) rfl
        · exact n2.1 (effsub hje), e6 j hj⟩)
      (fun t _ ht => (e7 t ht).ext q2) (fun t _ ht => (e7b t ht.1 ht.2).ext q2) q3 (fun al hal hl => by
        obtain ⟨r1, r2, r3, c, t, r4, r5⟩ := e8 al hal hl
        exact ⟨r1, by rw [q2.rs]; exact r2, r3, c, t, by rw [q2.kept _ r2]; exact r4, r5⟩) e9
  rcases s2 with ⟨w1, v, h', w2, w3, w4⟩ | ⟨w1, w3⟩
  · -- it tells its value
    have hval : ∃ v', opRun call o.op f H = some (v', H) ∧ ∀ d, o.dst = some d → fget frN d = v' := by
      by_cases hp : o.op.isPure = true
      · exact ⟨v, (pure_any hp w2).2 H, w3⟩
      · rcases c3 with c3 | c3
        · exact absurd c3 hp
        · cases w with
          | none =>
            have := hk_in _ _ c3
            have hk : (effOf pre).length = 0 + (effOf l1).length := by omega
            rw [Nat.zero_add] at hk
            rw [hk] at e2
            rw [s1] at e2; simp at e2; subst e2
            exact ⟨v, by rw [w2, val_same c1 w2], w3⟩
          | some p =>
            obtain ⟨lo, n⟩ := p
            have := hk_in lo n c3
            have hA := win_spec hwin _ (w4 lo n rfl) _ H this.1 this.2 e2
            unfold winAt at hA
            simp only at hA
            cases hx : opRun call o.op f H with
            | none => simp [hx] at hA
            | some y =>
              simp only [hx] at hA
              have hy : y.1 = v := AV.same_eq hA
              have hy2 : y.2 = H := val_same c1 (v := y.1) (h' := y.2) hx
              exact ⟨y.1, by rw [← hy2], fun d hd => by rw [w3 d hd, hy]⟩
    obtain ⟨v', v1, v2⟩ := hval
    have v1' : opRun call o.op (keepFr (usesOf o) f) H = some (v', H) := by
      rw [opRun_congr (fr' := f) fun t ht => hcg t (List.mem_append_left _ ht)]; exact v1
    have w1' : opWanted (keepFr (usesOf o) f) o.guard = some true := by
      rw [opWanted_congr (fr' := f) fun t ht => hcg t (List.mem_append_right _ ht)]; exact w1
    refine wanted_op ho (guard_sound hF k4 w1') (op_sound hcall e3 hF k1 v1' _ _ fun x g' W' q1 q2 q3 => ?_)
    exact fin q1 q2 fun t ht => by rw [v2 t ht]; exact q3
  · have w1' : opWanted (keepFr (usesOf o) f) o.guard = some false := by
      rw [opWanted_congr (fr' := f) fun t ht => hcg t (List.mem_append_right _ ht)]; exact w1
    refine unwanted_op ho (guard_sound hF k4 w1') (fin e3 (Ext.refl _ _ _) fun t ht => by rw [w3 t ht]; exact tup_undef)

theorem step_eff (hcall : CallS P call) (hn : ((opsOf ds).map (·.1) ++ (alsOf ds ++ tail).map (·.1)).Nodup) (hdn : (dsts ds ++ adst tail).Nodup)
    (hds : chkDs P nt ops (opsOf ds) (dsts ds ++ adst tail) (effOf ds) 0 none [] ds = true) (hT : ∀ l1 x l2, ds = l1 ++ x :: l2 → ElF call fr0 frN SN CK (effOf l1).length l2 x) (hN : ∀ t, t ∉ dsts ds → fget frN t = fget fr0 t)
    (I : Inv P call ops nt ds tail fr0 frN SN g0 h0 W0 listed a W) {l1 l2 : List DOp} {als : Als} {i : Nat} {o : AOper} (hsp : ds = l1 ++ .eff als i o :: l2) {o' : Oper} (ho : ops[i]? = some o')
    (hready : ∀ e ∈ o'.after, Region.binds .any e = true → Lst listed e.on) (hun : ¬ Lst listed i) {Q : Exit → Act → World → Prop} :
    wpOp P ops Q i (fun a' W' => Inv P call ops nt ds tail fr0 frN SN g0 h0 W0 (listed.setIfInBounds i true) a' W') a W := by
  obtain ⟨hsize, hclosed, htm, hdf, g, H, pre, rem, B, e1, e2, e3, e4, e5, e6, e7, e7b, e8, e9⟩ := I
  have hi : i < ops.size := Nat.lt_of_not_le fun hle => by simp [Array.getElem?_eq_none hle] at ho
  have hq : (i, o) ∈ opsOf ds := by rw [hsp, opsOf_append]; simp [opsOf]
  have hel := chk_split l1 0 none [] _ l2 (by rw [← hsp]; exact hds)
  simp only [chkEl, ho, Bool.and_eq_true, List.all_eq_true, Bool.or_eq_true, List.contains_iff_mem, List.mem_append, List.nil_append] at hel
  obtain ⟨⟨⟨c1, c2⟩, c3⟩, c4⟩ := hel
  simp only [chkOper, Bool.and_eq_true, decide_eq_true_eq] at c4
  obtain ⟨⟨⟨k1, k2⟩, k3⟩, k4⟩ := c4
  have hdlt : ∀ d, o.dst = some d → d < nt := fun d hd => by rw [hd] at k3; simpa using k3
  have hreadyL : ∀ (j : Nat), reach ops 9 i j = true → Lst listed j := fun j hj => reach_closed hclosed (fun o2 ho2 => by rw [ho] at ho2; simp at ho2; subst ho2; exact hready) hj
  -- where it stands: the first effect behind what has come up
  have hle : (effOf l1).length ≥ (effOf pre).length := by
    refine Nat.le_of_not_lt fun hlt => hun ?_
    have h1 : (effOf ds)[(effOf l1).length]? = some i := by rw [hsp]; exact eff_index
    rw [e1, effOf_append, List.getElem?_append_left hlt] at h1
    exact e5 i (List.mem_of_getElem? h1)
  obtain ⟨r1, f1, f2⟩ := split_at e1 hsp hle rfl
  have hr1 : effOf r1 = [] := by
    cases hz : effOf r1 with
    | nil => rfl
    | cons z zs =>
      exfalso
      obtain ⟨j, j1, j2⟩ := lastP_eff r1 (lastP none pre) ⟨z, by rw [hz]; simp⟩
      have : lastP none l1 = some j := by rw [f1]; simp only [lastP, List.foldl_append] at j2 ⊢; exact j2
      rw [this] at c3
      exact e6 j (by rw [f2, effOf_append]; exact List.mem_append_left _ j1) (hreadyL j c3)
  have hals1 : alsOf r1 = [] := by
    clear f1 f2
    induction r1 with
    | nil => rfl
    | cons y r ih =>
      cases y with
      | val => exact ih (by simpa [effOf] using hr1)
      | eff => simp [effOf] at hr1
  have hlen : (effOf l1).length = (effOf pre).length := by rw [f1, effOf_append, hr1]; simp
  obtain ⟨f, H1, H2, hview, s1, s2, s3, s4⟩ := hT l1 _ l2 hsp
  rw [hlen] at s1 s2
  rw [s1] at e2; simp at e2; subst e2
  have halrem : ∀ al ∈ als, al ∈ alsOf rem ++ tail := fun al h => by rw [f2, alsOf_append, hals1]; simp [alsOf, h]
  have halL : ∀ al ∈ als, Lst listed al.1 := fun al h => hreadyL _ (c1 al h)
  have hixals : (als.map (·.1)).Nodup := by
    have h1 := (List.nodup_append.1 hn).2.1
    rw [hsp, alsOf_append] at h1
    simp only [alsOf, List.map_append] at h1
    have := (List.nodup_append.1 h1).1
    have := (List.nodup_append.1 this).2.1
    exact (List.nodup_append.1 this).1
  obtain ⟨g2, b1, b2, b3, b4, b5, b6⟩ := adopt_all (g := g0) (h := h0) (W := W0) a.tmps frN B als e3 e4 hixals (fun al h => e8 al (halrem al h) (halL al h)) (fun al h al' h' hne => e9 al (halrem al h) al' (halrem al' h') (halL al h) (halL al' h') hne) s3
  have hadst : ∀ t, t ∈ adst als → VRel g2 W (U g2 (alsH als H1)) (fget frN t) (a.tmps.getD t undef) := fun t ht => by
    obtain ⟨al, h1, rfl⟩ := List.mem_map.1 ht
    exact b6 al h1
  have hnl : ∀ t, t ∈ adst als ∨ t ∈ adst (alsOf l1) → t ∉ (elOper (DOp.eff als i o)).dst.toList ++ dsts l2 := fun t ht hm => by
    have hnd : (dsts ds).Nodup := (List.nodup_append.1 hdn).1
    rw [hsp] at hnd
    have key : ∀ (l : List DOp), (dsts (l ++ .eff als i o :: l2)).Nodup → (t ∈ adst als ∨ t ∈ adst (alsOf l)) → False := by
      intro l
      induction l with
      | nil =>
        intro hn ht
        simp only [List.nil_append, dsts, elDsts, elAls, elOper] at hn
        have n1 := List.nodup_append.1 hn
        have n2 := List.nodup_append.1 n1.1
        rcases ht with ht | ht
        · rcases List.mem_append.1 hm with hm | hm
          · exact n2.2.2 t ht t hm rfl
          · exact n1.2.2 t (List.mem_append_left _ ht) t hm rfl
        · cases ht
      | cons y l ih =>
        intro hn ht
        simp only [List.cons_append, dsts] at hn
        have n1 := List.nodup_append.1 hn
        rcases ht with ht | ht
        · exact ih n1.2.1 (.inl ht)
        · cases y with
          | val => exact ih n1.2.1 (.inr ht)
          | eff als' i' o2 =>
            simp only [alsOf, adst, List.map_append, List.mem_append] at ht
            rcases ht with ht | ht
            · exact n1.2.2 t (List.mem_append_left _ ht) t (dsts_mid hm) rfl
            · exact ih n1.2.1 (.inr ht)
    exact key l1 hnd ht
  have hused : ∀ t ∈ usesOf o, VRel g2 W (U g2 (alsH als H1)) (fget f t) (a.tmps.getD t undef) := fun t ht => by
    rw [hview t]
    rcases c2 t ht with h | h | h
    · exact (use_view hdn (later_sub hsp) hN hclosed ho hready hun e7 (fun t h => e7b t h.1 h.2) h).mono b2 b3
    · rw [if_neg (hnl t (.inr h))]
      rw [f1, alsOf_append, hals1, List.append_nil] at h
      exact (e7 t (.inr h)).mono b2 b3
    · rw [if_neg (hnl t (.inl h))]
      exact hadst t h
  have hF : FRel g2 (alsH als H1) W (keepFr (usesOf o) f) a.tmps := fun t => by
    rw [fget_kept]
    split
    · rename_i h; exact hused t h
    · exact .any _
  have hcg : ∀ t ∈ usesOf o, fget (keepFr (usesOf o) f) t = fget f t := fun t ht => by rw [fget_kept, if_pos ht]
  have hds2 : ds = (pre ++ r1 ++ [.eff als i o]) ++ l2 := by rw [hsp, f1]; simp
  have heff2 : effOf (pre ++ r1 ++ [.eff als i o]) = effOf pre ++ [i] := by rw [effOf_append, effOf_append, hr1]; simp [effOf]
  have hals2 : alsOf (pre ++ r1 ++ [.eff als i o]) = alsOf pre ++ als := by rw [alsOf_append, alsOf_append, hals1]; simp [alsOf]
  have hnotl2 : ∀ al ∈ alsOf l2 ++ tail, al ∈ alsOf rem ++ tail ∧ ∀ al' ∈ als, al.1 ≠ al'.1 := fun al hal => by
    refine ⟨by rw [f2, alsOf_append]; simp only [alsOf]; rcases List.mem_append.1 hal with h | h <;> simp [h], fun al' hal' e => ?_⟩
    have h1 := (List.nodup_append.1 hn).2.1
    rw [hsp, alsOf_append] at h1
    simp only [alsOf, List.append_assoc] at h1
    rw [List.map_append] at h1
    have h2 := (List.nodup_append.1 h1).2.1
    rw [List.map_append] at h2
    exact (List.nodup_append.1 h2).2.2 al'.1 (List.mem_map.2 ⟨al', hal', rfl⟩) al.1 (List.mem_map.2 ⟨al, hal, rfl⟩) e.symm
  have fin : ∀ {x : Value} {g' : G} {W' : World}, HRel g' H2 W' → Ext g2 (alsH als H1) W g' H2 W' → (∀ t, o.dst = some t → VRel g' W' (U g' H2) (fget frN t) x) →
      Inv P call ops nt ds tail fr0 frN SN g0 h0 W0 (listed.setIfInBounds i true) (a.put o'.dst x) W' := fun {x g' W'} q1 q2 q3 => by
    refine inv_next hn hdn hsize hclosed htm hdf hi ho hready hq k2 hdlt (pre := pre ++ r1 ++ [.eff als i o]) (rem := l2) (B := B) hds2 (by rw [heff2]; simpa using s2) q1 (b4.step q2) (fun j hj => ?_) (fun j hj => ⟨fun e => ?_, e6 j (by rw [f2, effOf_append]; simp [effOf, hj])⟩)
      (fun t hne ht => ?_) (fun t _ ht => ((e7b t ht.1 ht.2).mono b2 b3).ext q2) q3 (fun al hal hl => ?_) (fun al hal al' hal' hl hl' hne => e9 al (hnotl2 al hal).1 al' (hnotl2 al' hal').1 hl hl' hne)
    · rw [heff2] at hj
      rcases List.mem_append.1 hj with h | h
      · exact .inr (e5 j h)
      · exact .inl (by simpa using h)
    · -- the effects' numbers differ
      subst e
      have hnd : ((opsOf ds).map (·.1)).Nodup := (List.nodup_append.1 hn).1
      rw [hsp, opsOf_append, List.map_append] at hnd
      have n2 := (List.nodup_append.1 hnd).2.1
      simp only [opsOf, List.map_cons, List.nodup_cons] at n2
      have effsub : ∀ {l : List DOp} {j : Nat}, j ∈ effOf l → j ∈ (opsOf l).map (·.1) := by
        intro l
        induction l with
        | nil => intro j h; cases h
        | cons y l ih =>
          intro j h
          cases y with
          | val i' w' o2 => simp only [effOf] at h; simp only [opsOf, List.map_cons, List.mem_cons]; exact .inr (ih h)
          | eff als i' o2 =>
            simp only [effOf, List.mem_cons] at h
            simp only [opsOf, List.map_cons, List.mem_cons]
            rcases h with h | h
            · exact .inl h
            · exact .inr (ih h)
      exact n2.1 (effsub hj)
    · have key : Known ds listed pre t ∨ t ∈ adst als := by
        rcases ht with ht | ht
        · exact .inl (.inl ht)
        · rw [hals2] at ht
          simp only [adst, List.map_append, List.mem_append] at ht
          rcases ht with ht | ht
          · exact .inl (.inr ht)
          · exact .inr ht
      rcases key with h | h
      · exact ((e7 t h).mono b2 b3).ext q2
      · exact (hadst t h).ext q2
    · obtain ⟨r1', r2, r3, c, t, r4, r5⟩ := e8 al (hnotl2 al hal).1 hl
      have hrs2 : g2.rs (B al.1) := (b5 _).2 ⟨r2, fun al' hal' => e9 al (hnotl2 al hal).1 al' (halrem al' hal') hl (halL al' hal') ((hnotl2 al hal).2 al' hal')⟩
      exact ⟨r1', by rw [q2.rs]; exact hrs2, r3, c, t, by rw [q2.kept _ hrs2]; exact r4, r5⟩
  rcases s4 with ⟨w1, v, w2, w3⟩ | ⟨w1, w2, w3⟩
  · have v1' : opRun call o.op (keepFr (usesOf o) f) (alsH als H1) = some (v, H2) := by
      rw [opRun_congr (fr' := f) fun t ht => hcg t (List.mem_append_left _ ht)]; exact w2
    have w1' : opWanted (keepFr (usesOf o) f) o.guard = some true := by
      rw [opWanted_congr (fr' := f) fun t ht => hcg t (List.mem_append_right _ ht)]; exact w1
    refine wanted_op ho (guard_sound hF k4 w1') (op_sound hcall b1 hF k1 v1' _ _ fun x g' W' q1 q2 q3 => ?_)
    exact fin q1 q2 fun t ht => by rw [w3 t ht]; exact q3
  · subst w2
    have w1' : opWanted (keepFr (usesOf o) f) o.guard = some false := by
      rw [opWanted_congr (fr' := f) fun t ht => hcg t (List.mem_append_right _ ht)]; exact w1
    refine unwanted_op ho (guard_sound hF k4 w1') (fin b1 (Ext.refl _ _ _) fun t ht => by rw [w3 t ht]; exact tup_undef)

end
end Go.Proofs.YtfahpmlckobpmaaGreatDoor.Pi
