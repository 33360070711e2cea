/-
  From a row's reading of plain data to abstract values; and from a call that tells true and leaves all as it was to the row's post.
-/
import Derived.Test.YtfahpmlckobpmaaGreatDoorPiG
import Derived.WalkKit
import Derived.ProofKit
import Derived.OpenShut
import Derived.ReadAgain
import Derived.ChangeBears
import Derived.ChangeSame
import Derived.Deep.Slices
set_option linter.unusedSimpArgs false
set_option linter.unusedVariables false
set_option linter.unusedSectionVars false
namespace Go.Proofs.YtfahpmlckobpmaaGreatDoor.Pi
open Go

inductive Ty where
  | bool
  | int (k : IntKind)
  | str
  | slice (e : Ty)
  | struct (fs : List Ty)

mutual
def Ty.size : Ty → Nat
  | .struct fs => Ty.sizes fs
  | _ => 1
def Ty.sizes : List Ty → Nat
  | [] => 0
  | t :: r => t.size + Ty.sizes r
end

mutual
/-- is that how the program lays the type? -/
def tyOK (P : Program) : Ty → TypeId → Bool
  | .bool, t => match P.underlying t with | some .bool => true | _ => false
  | .int k, t => match P.underlying t with | some (.int k') => decide (k' = k) | _ => false
  | .str, t => match P.underlying t with | some .string => true | _ => false
  | .slice e, t => match P.underlying t with | some (.slice u) => tyOK P e u && (P.cellsOf u == e.size) && decide (0 < e.size) | _ => false
  | .struct fs, t => match P.underlying t with | some (.struct fa) => (P.cellsOf t == Ty.sizes fs) && fdOK P fs fa.toList 0 | _ => false
def fdOK (P : Program) : List Ty → List Field → Nat → Bool
  | [], [], _ => true
  | t :: r, f :: s, off => tyOK P t f.type && (f.offset == off) && (P.cellsOf f.type == t.size) && fdOK P r s (off + t.size)
  | _, _, _ => false
end

mutual
/-- the shape of what is told -/
def Sh : Ty → List AV → Prop
  | .bool, l => ∃ b, l = [.bool b]
  | .int k, l => ∃ n, l = [.int k n] ∧ (Lit.int k n).wf = true
  | .str, l => ∃ s : ByteArray, l = [.str (bytesOf s)]
  | .slice e, l => ∃ el, l = [.vs el .shared] ∧ ∀ r ∈ el, Sh e r
  | .struct fs, l => ShL fs l
def ShL : List Ty → List AV → Prop
  | [], l => l = []
  | t :: r, l => ∃ a b, l = a ++ b ∧ Sh t a ∧ ShL r b
end

def RelL (W : World) (l : List AV) (cs : List Value) : Prop := l.length = cs.length ∧ ∀ (i : Nat) (av : AV) (v : Value), l[i]? = some av → cs[i]? = some v → PRel W (fun _ _ => True) av v

theorem RelL.append {W : World} {a b : List AV} {c d : List Value} (h : RelL W a c) (k : RelL W b d) : RelL W (a ++ b) (c ++ d) := by
  refine ⟨by simp [h.1, k.1], fun i av v h1 h2 => ?_⟩
  by_cases hi : i < a.length
  · rw [List.getElem?_append_left hi] at h1
    rw [List.getElem?_append_left (by rw [← h.1]; exact hi)] at h2
    exact h.2 i av v h1 h2
  · rw [List.getElem?_append_right (by omega)] at h1
    rw [List.getElem?_append_right (by rw [← h.1]; omega), ← h.1] at h2
    exact k.2 _ av v h1 h2
theorem RelL.one {W : World} {a : AV} {v : Value} (h : PRel W (fun _ _ => True) a v) : RelL W [a] [v] := by
  refine ⟨rfl, fun i av x h1 h2 => ?_⟩
  match i, h1, h2 with
  | 0, h1, h2 => simp at h1 h2; subst h1; subst h2; exact h

section
variable {H : Type} {enc : TypeId × Value → H} {P : Program} {w : World} {base : Nat} {spare : Nat → Bool} {held : Bool}

theorem addr_flat {a : Addr} {v : Value} (h : w.cell? a = some v) : a = ⟨a.block, a.off, none⟩ := by
  unfold World.cell? at h
  split at h
  · split at h
    · cases h
    · rename_i hs
      cases a with
      | mk b o s => cases s with
        | none => rfl
        | some x => simp at hs
  · cases h

mutual
theorem trod_rel : ∀ (T : Ty) (t : TypeId) (fuel : Nat) (cs : List Value) (x : DataW H × List MemPlace), tyOK P T t = true → DataW.trod enc P w base spare held fuel t cs = some x → ∃ l, Sh T l ∧ l.length = T.size ∧ RelL w l cs
  | .bool, t, fuel, cs, x, ho, h => by
    simp only [tyOK] at ho
    split at ho
    · rename_i hu
      obtain ⟨b, rfl, _⟩ := DataW.trod_bool hu h
      exact ⟨_, ⟨b, rfl⟩, rfl, .one (.bool b)⟩
    · cases ho
  | .int k, t, fuel, cs, x, ho, h => by
    simp only [tyOK] at ho
    split at ho
    · rename_i k' hu
      simp only [decide_eq_true_eq] at ho
      subst ho
      obtain ⟨n, rfl, _, hw⟩ := DataW.trod_int hu h
      exact ⟨_, ⟨n, rfl, hw⟩, rfl, .one (.int _ n)⟩
    · cases ho
  | .str, t, fuel, cs, x, ho, h => by
    simp only [tyOK] at ho
    split at ho
    · rename_i hu
      obtain ⟨s, rfl, _⟩ := DataW.trod_string hu h
      exact ⟨_, ⟨s, rfl⟩, rfl, .one (.str s)⟩
    · cases ho
  | .slice e, t, fuel, cs, x, ho, h => by
    simp only [tyOK] at ho
    split at ho
    · rename_i u hu
      simp only [Bool.and_eq_true, beq_iff_eq, decide_eq_true_eq] at ho
      obtain ⟨⟨ho1, ho2⟩, ho3⟩ := ho
      rcases Go.Deep.open_slice hu h with ⟨rfl, _⟩ | ⟨a, len, cap, m, n, D, Pl, rfl, hb, hlc, hcm, hm, _, hel⟩
      · exact ⟨[.vs [] .shared], ⟨[], rfl, by simp⟩, rfl, .one (.vs0 _ _)⟩
      · have hlm : len ≤ m := by rw [hm]; split <;> omega
        have each : ∀ i, i < len → ∃ l, Sh e l ∧ l.length = e.size ∧ ∀ (j : Nat) (av : AV), l[j]? = some av → ∃ v, w.cell? ((a.add (i * e.size)).add j) = some v ∧ PRel w (fun _ _ => True) av v := by
          intro i hi
          obtain ⟨cs', h1, h2⟩ := hel i (by omega)
          obtain ⟨l, s1, s2, s3⟩ := trod_rel e u n cs' (D i, Pl i) ho1 h2
          obtain ⟨_, h4, h5⟩ := World.cells?_some h1
          refine ⟨l, s1, s2, fun j av hj => ?_⟩
          have hjl : j < l.length := (List.getElem?_eq_some_iff.1 hj).1
          have hjc : j < cs'.length := by rw [← s3.1]; exact hjl
          have := h5 j (by rw [← h4]; exact hjc)
          rw [ho2] at this
          exact ⟨cs'[j], by rw [this]; simp [hjc], s3.2 j av _ hj (by simp [hjc])⟩
        obtain ⟨F, hF⟩ := Go.Deep.choose_lt (α := List AV) each
        by_cases hl0 : len = 0
        · subst hl0
          exact ⟨[.vs [] .shared], ⟨[], rfl, by simp⟩, rfl, .one (.vs0 _ _)⟩
        · have hf0 := hF 0 (by omega)
          obtain ⟨v0, hv0, _⟩ := hf0.2.2 0 (F 0)[0] (by rw [List.getElem?_eq_getElem (by omega)])
          have hflat : a = ⟨a.block, a.off, none⟩ := by
            have : ((a.add (0 * e.size)).add 0) = a := by simp [Addr.add]
            rw [this] at hv0
            exact addr_flat hv0
          refine ⟨[.vs ((List.range len).map F) .shared], ⟨_, rfl, fun r hr => ?_⟩, rfl, ?_⟩
          · obtain ⟨i, hi, rfl⟩ := List.mem_map.1 hr
            exact (hF i (List.mem_range.1 hi)).1
          · have key : ∀ (i : Nat) (l : List AV) (j : Nat) (av : AV), ((List.range len).map F)[i]? = some l → l[j]? = some av → ∃ v, w.cell? ⟨a.block, a.off + i * e.size + j, none⟩ = some v ∧ PRel w (fun _ _ => True) av v := by
              intro i l j av hi hj
              have hi' : i < len := by have := (List.getElem?_eq_some_iff.1 hi).1; simpa using this
              have : F i = l := by simpa [hi'] using hi
              subst this
              obtain ⟨v, h1, h2⟩ := (hF i hi').2.2 j av hj
              rw [hflat] at h1
              rw [add_none, add_none] at h1
              exact ⟨v, h1, h2⟩
            have := mk_pvs (W := w) (V := fun _ _ => True) (e := (List.range len).map F) (b := a.block) (off := a.off) (z := e.size) (cap := cap) (by simpa using hlc) (fun r hr => by
              obtain ⟨i, hi, rfl⟩ := List.mem_map.1 hr
              exact (hF i (List.mem_range.1 hi)).2.1) (by
              intro i l j av hi hj
              obtain ⟨v, h1, h2⟩ := key i l j av hi hj
              exact ⟨v, trivial, h1, h2⟩)
            rw [hflat]
            have hlen : ((List.range len).map F).length = len := by simp
            rw [hlen] at this
            exact .one this
    · cases ho
  | .struct fs, t, fuel, cs, x, ho, h => by
    simp only [tyOK] at ho
    split at ho
    · rename_i fa hu
      simp only [Bool.and_eq_true, beq_iff_eq] at ho
      obtain ⟨xs, n, _, _, hl, hlen, hf⟩ := DataW.trod_struct hu h
      obtain ⟨l, s1, s2, s3⟩ := fd_rel fs fa.toList n cs 0 xs ho.2 (by simpa using hlen) (by rw [hl, ho.1]; simp) (fun i f hi => hf i f (by simpa using hi))
      exact ⟨l, s1, s2, by simpa using s3⟩
    · cases ho
theorem fd_rel : ∀ (fs : List Ty) (fa : List Field) (n : Nat) (cs : List Value) (off : Nat) (xs : List (DataW H × List MemPlace)), fdOK P fs fa off = true → xs.length = fa.length → cs.length = off + Ty.sizes fs →
    (∀ (i : Nat) (f : Field), fa[i]? = some f → DataW.trod enc P w base spare held n f.type ((cs.drop f.offset).take (P.cellsOf f.type)) = xs[i]?) → ∃ l, ShL fs l ∧ l.length = Ty.sizes fs ∧ RelL w l (cs.drop off)
  | [], [], n, cs, off, xs, _, _, hc, _ => ⟨[], rfl, rfl, by simp only [Ty.sizes, Nat.add_zero] at hc; rw [List.drop_of_length_le (by omega)]; exact ⟨rfl, by simp⟩⟩
  | T :: fs, f :: fa, n, cs, off, xs, ho, hx, hc, hf => by
    simp only [fdOK, Bool.and_eq_true, beq_iff_eq] at ho
    obtain ⟨⟨⟨o1, o2⟩, o3⟩, o4⟩ := ho
    simp only [Ty.sizes] at hc
    match xs, hx with
    | y :: ys, hx =>
      have h0 := hf 0 f rfl
      rw [o2, o3] at h0
      obtain ⟨l, s1, s2, s3⟩ := trod_rel T f.type n _ y o1 (by simpa using h0)
      obtain ⟨m, t1, t2, t3⟩ := fd_rel fs fa n cs (off + T.size) ys o4 (by simpa using hx) (by omega) (fun i g hi => by simpa using hf (i + 1) g (by simpa using hi))
      refine ⟨l ++ m, ⟨l, m, rfl, s1, t1⟩, by simp [s2, t2, Ty.sizes], ?_⟩
      have := s3.append t3
      rwa [← List.drop_drop, List.take_append_drop] at this
end

theorem trodAll_carry {w' : World} : ∀ {ts : List TypeId} {vs : List Value} {ds : List (DataW H)} {ps : List MemPlace}, DataW.TrodAll enc P w base spare held ts vs ds ps → (∀ p ∈ ps, w.sameAt w' p) → DataW.TrodAll enc P w' base spare held ts vs ds ps
  | [], [], [], _, h, _ => h
  | _ :: _, _ :: _, _ :: _, _, ⟨p, q, ⟨n, h⟩, hs, e⟩, hh => ⟨p, q, ⟨n, DataW.trod_carry _ _ _ _ h fun x hx => hh x (by rw [e]; exact List.mem_append_left _ hx)⟩, trodAll_carry hs fun x hx => hh x (by rw [e]; exact List.mem_append_right _ hx), e⟩

/-- **the row's post**: the call told true, and what was there stays -/
theorem law_post {W W' : World} (hl : laidOutB P = true) (hm : mapsRowed P = true) (hz : ∀ t e, t < P.types.size → P.underlying t = some (.slice e) → 0 < P.cellsOf e) {f : Func} {s : ChangeSpec} {apart fresh handsOn : Bool} {tb : TypeId}
    {args : Array Value} {ds gs : List (DataW H)} {before : List MemPlace} (hv : s.vars = []) (hp : ∀ t ∈ f.params.toList, t < P.types.size) (hrt : f.resultTypes = #[tb]) (htb : P.underlying tb = some .bool)
    (hW : DataW.Whole enc P f.params.toList s.vars apart W args.toList ds gs before) (hs : s.fn H (ds ++ gs) = { results := [.lit (.bool true)], args := ds })
    (hos : W'.os = W.os) (hout : W'.output = W.output) (hheap : ∀ b, b < W.heap.size → W'.heap[b]? = W.heap[b]?) :
    s.post enc P f apart fresh handsOn false W args (.bool true) W' := by
  have hlt := hW.lt
  have hW' := hW
  obtain ⟨p, q, hA, hV, rfl, hfz, hnd⟩ := hW
  rw [hv] at hV
  obtain ⟨rfl, rfl⟩ : gs = [] ∧ q = [] := by
    cases gs with
    | nil => exact ⟨rfl, hV⟩
    | cons g r => exact absurd hV (by intro h; cases h)
  have hsame : ∀ x ∈ p, W.sameAt W' x := fun x hx => by
    have hxl := hlt x (by simpa using hx)
    cases x with
    | cell b o => simp only [World.sameAt, World.cell?]; rw [hheap b hxl]
    | map b => exact hheap b hxl
  refine ⟨ds, [], p ++ [], [], p, [], hW', ?_, ?_, ?_, ?_, fun h => by cases h⟩
  · rw [hs, hrt]
    exact Go.ChangeShapes.trodAll_mk1 (Go.RowKit.shut_bool htb true)
  · rw [hs]
    refine trodAll_carry (DataW.TrodAll.respare (kids_rows hl hm) hz (fun t ht => hp t ht) hA fun x hx => ?_) hsame
    simpa using hlt x (by simpa using hx)
  · rw [hv, hs]; rfl
  · refine ⟨hos, hout, fun i hi => ?_⟩
    rw [hheap i hi]
    cases hh : W.heap[i]? with
    | none => trivial
    | some o => cases o <;> first | exact ⟨rfl, rfl, rfl, fun _ _ => rfl⟩ | exact .inr ⟨rfl, rfl⟩ | rfl
end
end Go.Proofs.YtfahpmlckobpmaaGreatDoor.Pi
