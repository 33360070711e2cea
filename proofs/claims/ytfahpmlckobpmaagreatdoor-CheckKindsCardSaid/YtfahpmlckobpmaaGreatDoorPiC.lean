/-
  Places, parts, slices of slices, numbers and texts.
-/
import Derived.Test.YtfahpmlckobpmaaGreatDoorPiB
import Derived.Laws.Slices
import Derived.Laws.Small
import Derived.Laws.Build
import Derived.Laws.Strings
import Derived.Laws.MakeOwn
import Derived.Laws.Append
set_option linter.unusedSimpArgs false
set_option linter.unusedVariables false
set_option linter.unusedSectionVars false
namespace Go.Proofs.YtfahpmlckobpmaaGreatDoor.Pi
open Go

section
variable {P : Program} {g : G} {h : AH} {W : World}

/-! ### places -/
theorem ref_drop {V : Nat → Nat → Prop} {cs : List AV} {b o : Nat} (hx : VRel g W V (.ref cs) (.pointer (some ⟨b, o, none⟩))) (n : Nat) : VRel g W V (.ref (cs.drop n)) (.pointer (some ⟨b, o + n, none⟩)) := by
  obtain ⟨b', o', val, he, hc, h1, h2⟩ := inv_ref hx
  simp at he; obtain ⟨rfl, rfl⟩ := he
  refine mk_ref (fun av hm => hc av (List.mem_of_mem_drop hm)) fun i av hi => ?_
  rw [List.getElem?_drop] at hi
  refine ⟨val (n + i), ?_, ?_, h2 _ _ hi⟩
  · rw [Nat.add_assoc]; exact (h1 _ _ hi).1
  · rw [Nat.add_assoc]; exact (h1 _ _ hi).2

/-- a place further on -/
def moveA (n : Nat) : AV → Option AV
  | .ref cs => some (.ref (cs.drop n))
  | .ptr id row o => some (.ptr id row (o + n))
  | _ => none

theorem move_sound {V : Nat → Nat → Prop} {a a' : AV} {v : Value} (hv : VRel g W V a v) {n : Nat} (hm : moveA n a = some a') :
    ∃ b o, v = .pointer (some ⟨b, o, none⟩) ∧ VRel g W V a' (.pointer (some ⟨b, o + n, none⟩)) := by
  cases a with
  | ref cs =>
    simp [moveA] at hm; subst hm
    obtain ⟨b, o, val, rfl, _⟩ := inv_ref hv
    exact ⟨b, o, rfl, ref_drop hv n⟩
  | ptr id row o =>
    simp [moveA] at hm; subst hm
    obtain ⟨r, x, z, hg, rfl⟩ := inv_ptr hv
    refine ⟨r, _, rfl, ?_⟩
    have := VRel.ptr (g := g) (W := W) (V := V) id row (o + n) r x z hg
    rwa [← Nat.add_assoc] at this
  | _ => cases hm

/-- a field's place -/
def fieldOK (P : Program) (t : TypeId) (f off s : Nat) (agg : Bool) : Bool :=
  match P.underlying t with
  | some (.struct fs) => match fs[f]? with
    | some x => (x.offset == off) && sizeOK P x.type s && aggOK P x.type agg
    | none => false
  | _ => false

theorem fa_sound (hr : HRel g h W) {t f off s : Nat} {agg : Bool} (hf : fieldOK P t f off s agg = true) (hs : 0 < s) {a a' : AV} {v : Value} (hv : VRel g W (U g h) a v) (hm : moveA off a = some a') :
    VRes P (Instr.fieldAt t v f) g h W a' h := by
  unfold fieldOK at hf
  split at hf
  · rename_i fs hu
    split at hf
    · rename_i x hx
      simp only [Bool.and_eq_true, beq_iff_eq] at hf
      obtain ⟨⟨ho, hsz⟩, _⟩ := hf
      obtain ⟨b, o, rfl, h2⟩ := move_sound hv hm
      refine VRes.same hr (x := .pointer (some ⟨b, o + off, none⟩)) ?_ h2
      unfold Instr.fieldAt
      rw [Sem.run_bind, run_underlying hu]
      simp only [Result.andThen_ok, hx, Instr.sureAddr, fieldPlace]
      have hne : ¬ s = 0 := by omega
      simp only [Sem.run_bind, Sem.run_pure, Result.andThen_ok, run_size hsz, hne, if_false, add_none, ho]
    · cases hf
  · cases hf

theorem part_sound {V : Nat → Nat → Prop} {cs : List AV} {c : Array Value} (hl : LayA g W V cs c) {t : TypeId} {agg : Bool} {s off : Nat} (ha : aggOK P t agg = true) (hs : sizeOK P t s = true) {v : AV}
    (hv : readAt agg s (cs.drop off) = some v) : ∃ x, (part t c off).run P W = .ok x W ∧ VRel g W V v x := by
  obtain ⟨hc, hlen, hval⟩ := hl
  unfold readAt at hv
  unfold part
  rw [Sem.run_bind, run_isAgg ha]
  simp only [Result.andThen_ok]
  cases agg with
  | true =>
    simp only [if_true] at hv ⊢
    split at hv
    · rename_i hle
      simp at hv hle; subst hv
      rw [Sem.run_bind, run_size hs]
      simp only [Result.andThen_ok, Sem.run_pure]
      refine ⟨_, rfl, .agg _ _ (fun av hm => hc av (List.mem_of_mem_drop (List.mem_of_mem_take hm))) ?_ fun i av x h1 h2 => ?_⟩
      · simp [List.length_take, List.length_drop]; omega
      · have hi : i < s := by
          have := (List.getElem?_eq_some_iff.1 h1).1
          simp at this; omega
        rw [List.getElem?_take_of_lt hi, List.getElem?_drop] at h1
        rw [Array.getElem?_extract] at h2
        split at h2
        · exact hval (off + i) av x h1 h2
        · cases h2
    · cases hv
  | false =>
    simp only [Bool.false_eq_true, if_false] at hv ⊢
    have h0 : cs[off]? = some v := by rw [List.head?_drop] at hv; exact hv
    have hlt : off < c.size := by rw [← hlen]; exact (List.getElem?_eq_some_iff.1 h0).1
    refine ⟨c[off], ?_, hval off v _ h0 (by simp [hlt])⟩
    simp [hlt]

theorem fld_sound (hr : HRel g h W) {t f off s : Nat} {agg : Bool} (hf : fieldOK P t f off s agg = true) {cs : List AV} {v : Value} (hv : VRel g W (U g h) (.agg cs) v) {a' : AV} (hm : readAt agg s (cs.drop off) = some a') :
    VRes P (Instr.field t v f) g h W a' h := by
  unfold fieldOK at hf
  split at hf
  · rename_i fs hu
    split at hf
    · rename_i x hx
      simp only [Bool.and_eq_true, beq_iff_eq] at hf
      obtain ⟨⟨ho, hsz⟩, hag⟩ := hf
      obtain ⟨c, rfl, hc, hlen, hval⟩ := inv_agg hv
      obtain ⟨y, h1, h2⟩ := part_sound (P := P) ⟨hc, hlen, hval⟩ hag hsz hm
      refine VRes.same hr (x := y) ?_ h2
      unfold Instr.field
      rw [Sem.run_bind, run_underlying hu]
      simp only [Result.andThen_ok, hx, asAgg, Sem.run_bind, Sem.run_pure, ho]
      exact h1
    · cases hf
  · cases hf

/-- a slice type, its element's size -/
def sliceOK (P : Program) (t : TypeId) (s : Nat) : Bool :=
  match P.underlying t with
  | some (.slice e) => sizeOK P e s
  | _ => false

def arrayOK (P : Program) (t : TypeId) (len s : Nat) (agg : Bool) : Bool :=
  match P.underlying t with
  | some (.array n e) => (n == len) && sizeOK P e s && aggOK P e agg
  | _ => false

theorem ixa_sound (hr : HRel g h W) {t s : Nat} (ht : sliceOK P t s = true) {x : AV} {xv : Value} (hx : VRel g W (U g h) x xv) {k : IntKind} {n : Int} {a' : AV}
    (hm : (match (generalizing := false) x with
      | .vs e _ => if 0 ≤ n then (e[n.toNat]?).bind fun cs => if cs.length = s then some (.ref cs) else none else none
      | .ms id st l =>
        match h.get id with
        | some (.rows z _) => if z = s ∧ 0 ≤ n ∧ n < l then some (.ptr id (st + n.toNat) 0) else none
        | _ => none
      | _ => none) = some a') :
    VRes P (Instr.indexAt t xv (.int k n)) g h W a' h := by
  unfold sliceOK at ht
  split at ht
  · rename_i e hu
    have run : ∀ (b o : Nat) (len cap : Nat) (_ : 0 ≤ n) (_ : n < len), (Instr.indexAt t (.slice (some ⟨b, o, none⟩) len cap) (.int k n)).run P W = .ok (.pointer (some ⟨b, o + n.toNat * s, none⟩)) W := by
      intro b o len cap h0 h1
      unfold Instr.indexAt
      have hc : (0 ≤ n ∧ n < (len : Int)) := ⟨h0, h1⟩
      simp only [Sem.run_bind, asIntOf, Sem.run_pure, Result.andThen_ok, run_underlying hu, hc, and_self, if_true, run_size ht, add_none]
    cases x with
    | vs el tk =>
      simp only at hm
      split at hm
      · rename_i h0
        obtain ⟨cs, h1, h2⟩ := bind_some_iff.1 hm
        split at h2
        · rename_i hlen
          simp at h2; subst h2
          rcases inv_pvs (inv_vs hx) with ⟨rfl, _⟩ | ⟨b, o, z, cap, rfl, _, hz', hval⟩
          · simp at h1
          · have hlt : n.toNat < el.length := (List.getElem?_eq_some_iff.1 h1).1
            have hzs : z = s := by rw [← hz' cs (List.mem_of_getElem? h1)]; exact hlen
            subst hzs
            refine VRes.same hr (run b o _ cap h0 (by omega)) ?_
            have hcell : ∀ av ∈ cs, av.isCell = true := fun av hav => by
              obtain ⟨j, hj⟩ := List.mem_iff_getElem?.1 hav
              obtain ⟨y, _, _, hp⟩ := hval _ cs j av h1 hj
              exact hp.cell
            refine mk_ref hcell fun j av hj => ?_
            obtain ⟨y, h3, h4, h5⟩ := hval _ cs j av h1 hj
            exact ⟨y, h3, h4, .pure _ _ h5⟩
        · cases h2
      · cases hm
    | ms id st l =>
      simp only at hm
      split at hm
      · rename_i z rs hgid
        split at hm
        · rename_i hc
          simp at hm; subst hm
          obtain ⟨r, y, z', cap, a, hg, _, rfl, ha⟩ := inv_ms hx
          obtain ⟨r2, x2, _, _, hg2, _⟩ := hr.blk id _ hgid
          rw [hg] at hg2; simp at hg2; obtain ⟨rfl, rfl, rfl⟩ := hg2
          obtain ⟨rfl, hc⟩ := hc
          obtain rfl : a = some ⟨r, y + st * z', none⟩ := by rcases ha with ⟨h1, _⟩ | ⟨h1, _⟩ <;> first | exact h1 | omega
          refine VRes.same hr (run r _ l cap hc.1 hc.2) ?_
          have := VRel.ptr (g := g) (W := W) (V := U g h) id (st + n.toNat) 0 r y z' hg
          rw [Nat.add_mul, Nat.add_zero, ← Nat.add_assoc] at this
          exact this
        · cases hm
      · cases hm
    | _ => cases hm
  · cases ht

theorem ixarr_sound (hr : HRel g h W) {t len s : Nat} {agg : Bool} (ht : arrayOK P t len s agg = true) {x : AV} {xv : Value} (hx : VRel g W (U g h) x xv) {k : IntKind} {n : Int} (h0 : 0 ≤ n) (h1 : n < len) {a' : AV}
    (hm : moveA (n.toNat * s) x = some a') : VRes P (Instr.indexAt t xv (.int k n)) g h W a' h := by
  unfold arrayOK at ht
  split at ht
  · rename_i m e hu
    simp only [Bool.and_eq_true, beq_iff_eq] at ht
    obtain ⟨⟨rfl, hsz⟩, _⟩ := ht
    obtain ⟨b, o, rfl, h2⟩ := move_sound hx hm
    refine VRes.same hr (x := .pointer (some ⟨b, o + n.toNat * s, none⟩)) ?_ h2
    unfold Instr.indexAt
    have hc : (0 ≤ n ∧ n < (m : Int)) := ⟨h0, h1⟩
    simp only [Sem.run_bind, asIntOf, Sem.run_pure, Result.andThen_ok, run_underlying hu, Instr.sureAddr, hc, and_self, if_true, run_size hsz, add_none]
  · cases ht

theorem ixagg_sound (hr : HRel g h W) {t len s : Nat} {agg : Bool} (ht : arrayOK P t len s agg = true) {cs : List AV} {xv : Value} (hx : VRel g W (U g h) (.agg cs) xv) {k : IntKind} {n : Int} (h0 : 0 ≤ n) (h1 : n < len) {a' : AV}
    (hm : readAt agg s (cs.drop (n.toNat * s)) = some a') : VRes P (Instr.index t xv (.int k n)) g h W a' h := by
  unfold arrayOK at ht
  split at ht
  · rename_i m e hu
    simp only [Bool.and_eq_true, beq_iff_eq] at ht
    obtain ⟨⟨rfl, hsz⟩, hag⟩ := ht
    obtain ⟨c, rfl, hc, hlen, hval⟩ := inv_agg hx
    obtain ⟨y, h2, h3⟩ := part_sound (P := P) ⟨hc, hlen, hval⟩ hag hsz hm
    refine VRes.same hr (x := y) ?_ h3
    unfold Instr.index
    have hc : (0 ≤ n ∧ n < (m : Int)) := ⟨h0, h1⟩
    simp only [Sem.run_bind, asIntOf, Sem.run_pure, Result.andThen_ok, run_underlying hu, hc, and_self, if_true, run_size hsz]
    exact h2
  · cases ht

def isString (P : Program) (t : TypeId) : Bool := match P.underlying t with | some .string => true | _ => false
theorem of_isString {t : TypeId} (ht : isString P t = true) : P.underlying t = some .string := by
  unfold isString at ht
  split at ht
  · assumption
  · cases ht

theorem len_bytesOf (s : ByteArray) : (bytesOf s).length = s.size := by simp [bytesOf]

theorem ix_sound (hr : HRel g h W) {t : Nat} (ht : isString P t = true) {s : List Nat} {xv : Value} (hx : VRel g W (U g h) (.str s) xv) {k : IntKind} {n : Int} (h0 : 0 ≤ n) {b : Nat} (hb : s[n.toNat]? = some b) :
    VRes P (Instr.index t xv (.int k n)) g h W (.int .u8 b) h := by
  obtain ⟨bs, rfl, rfl⟩ := inv_str hx
  have hlt : n.toNat < bs.size := by rw [← len_bytesOf]; exact (List.getElem?_eq_some_iff.1 hb).1
  have hbv : bs[n.toNat]? = some bs[n.toNat] := getElem?_pos bs n.toNat hlt
  have hbb : b = (bs[n.toNat]).toNat := by
    simp only [bytesOf, List.getElem?_map] at hb
    have : bs.data.toList[n.toNat]? = some bs[n.toNat] := by
      have hl : n.toNat < bs.data.size := hlt
      rw [Array.getElem?_toList]; exact Array.getElem?_eq_getElem hl
    simp [this] at hb
    exact hb.symm
  refine VRes.same hr (x := .int .u8 (bs[n.toNat]).toNat) ?_ (by rw [hbb]; exact .pure _ _ (.int _ _))
  unfold Instr.index
  simp only [Sem.run_bind, asIntOf, Sem.run_pure, Result.andThen_ok, run_underlying (of_isString ht), h0, if_true, hbv]

theorem extr_sound (hr : HRel g h W) {l : List AV} {v : Value} (hv : VRel g W (U g h) (.tup l) v) {i : Nat} {a : AV} (ha : l[i]? = some a) : VRes P (Instr.extract v i) g h W a h := by
  obtain ⟨x, rfl, hlen, hval⟩ := inv_tup hv
  have hlt : i < x.size := by rw [← hlen]; exact (List.getElem?_eq_some_iff.1 ha).1
  refine VRes.same hr (x := x[i]) ?_ (hval i a _ ha (by simp [hlt]))
  simp [Instr.extract, hlt]

theorem mkI_sound (hr : HRel g h W) {t : Nat} (ht : P.concrete t = true) {a : AV} {v : Value} (hv : VRel g W (U g h) a v) : VRes P (Instr.makeInterface t v) g h W (.iface t a) h :=
  VRes.same hr (run_makeInterface W t v ht) (.iface _ _ _ hv)

/-! ### slices of texts and slices -/
theorem bound_sound {V : Nat → Nat → Prop} {n : Nat} {d r : Nat} {x : Option AV} {xv : Option Value} (hx : ∀ a, x = some a → ∃ v, xv = some v ∧ VRel g W V a v) (hn : x = none → xv = none) (hb : boundA n x d = some r) :
    (xv = none ∧ r = d) ∨ ∃ v, xv = some v ∧ r ≤ n ∧ ∀ y code, n ≤ y → (Instr.sliceBound v y code).run P W = .ok r W := by
  cases x with
  | none => simp [boundA] at hb; exact .inl ⟨hn rfl, hb.symm⟩
  | some a =>
    obtain ⟨v, rfl, hv⟩ := hx a rfl
    cases a with
    | int k i =>
      simp only [boundA] at hb
      split at hb
      · rename_i hc
        simp at hb; subst hb
        refine .inr ⟨v, rfl, by omega, fun y code hy => ?_⟩
        rw [inv_int hv]
        exact run_sliceBound W k i y code hc.1 (by omega)
      · cases hb
    | _ => simp [boundA] at hb

theorem bytes_extract (s : ByteArray) (l h : Nat) : bytesOf (s.extract l h) = ((bytesOf s).drop l).take (h - l) := by
  simp only [bytesOf, ByteArray.data_extract, Array.toList_extract, List.extract_eq_take_drop, List.map_take, List.map_drop]

theorem run_bounds3 {isSlice : Bool} {len cap : Nat} {lo hi : Option Value} {l h : Nat} (hl : (lo = none ∧ l = 0) ∨ ∃ v, lo = some v ∧ l ≤ h ∧ ∀ y code, h ≤ y → (Instr.sliceBound v y code).run P W = .ok l W)
    (hh : (hi = none ∧ h = len) ∨ ∃ v, hi = some v ∧ h ≤ len ∧ ∀ y code, len ≤ y → (Instr.sliceBound v y code).run P W = .ok h W) (hlc : len ≤ cap) :
    (Instr.sliceBounds isSlice len cap lo hi none).run P W = .ok (l, h, cap) W := by
  unfold Instr.sliceBounds
  rcases hh with ⟨rfl, rfl⟩ | ⟨v, rfl, h1, h2⟩ <;> rcases hl with ⟨rfl, rfl⟩ | ⟨u, rfl, h3, h4⟩ <;>
    simp only [Sem.run_bind, Sem.run_pure, Result.andThen_ok]
  · simp [h4 _ _ (Nat.le_refl _)]
  · simp [h2 _ _ hlc]
  · simp [h2 _ _ hlc, h4 _ _ (Nat.le_refl _)]

end
end Go.Proofs.YtfahpmlckobpmaaGreatDoor.Pi
/-
  Slicing; lengths; numbers, texts, tests.
-/
namespace Go.Proofs.YtfahpmlckobpmaaGreatDoor.Pi
open Go

section
variable {P : Program} {g : G} {h : AH} {W : World}

def OptR (g : G) (W : World) (V : Nat → Nat → Prop) : Option AV → Option Value → Prop
  | none, none => True
  | some a, some v => VRel g W V a v
  | _, _ => False

theorem bound_sound' {V : Nat → Nat → Prop} {n : Nat} {d r : Nat} {x : Option AV} {xv : Option Value} (hx : OptR g W V x xv) (hb : boundA n x d = some r) :
    (xv = none ∧ r = d) ∨ ∃ v, xv = some v ∧ r ≤ n ∧ ∀ y code, n ≤ y → (Instr.sliceBound v y code).run P W = .ok r W := by
  refine bound_sound (g := g) (V := V) (x := x) (fun a ha => ?_) (fun hn => ?_) hb
  · subst ha
    cases xv with
    | none => exact hx.elim
    | some v => exact ⟨v, rfl, hx⟩
  · subst hn
    cases xv with
    | none => rfl
    | some v => exact hx.elim

theorem run_bounds4 {len cap m h' l : Nat} {lo hi mx : Option Value} (hm : (mx = none ∧ m = len) ∨ ∃ v, mx = some v ∧ m ≤ len ∧ ∀ y code, len ≤ y → (Instr.sliceBound v y code).run P W = .ok m W)
    (hh : (hi = none ∧ h' = len) ∨ ∃ v, hi = some v ∧ h' ≤ m ∧ ∀ y code, m ≤ y → (Instr.sliceBound v y code).run P W = .ok h' W)
    (hl : (lo = none ∧ l = 0) ∨ ∃ v, lo = some v ∧ l ≤ h' ∧ ∀ y code, h' ≤ y → (Instr.sliceBound v y code).run P W = .ok l W) (hlc : len ≤ cap) (hno : hi = none → mx = none) :
    (Instr.sliceBounds true len cap lo hi mx).run P W = .ok (l, h', if mx = none then cap else m) W ∧ l ≤ h' ∧ h' ≤ len := by
  have h1 : m ≤ len := by rcases hm with ⟨_, rfl⟩ | ⟨v, _, h, _⟩ <;> omega
  have h2 : h' ≤ len := by rcases hh with ⟨_, rfl⟩ | ⟨v, _, h, _⟩ <;> omega
  have h3 : l ≤ h' := by rcases hl with ⟨_, rfl⟩ | ⟨v, _, h, _⟩ <;> omega
  refine ⟨?_, h3, h2⟩
  unfold Instr.sliceBounds
  rcases hm with ⟨rfl, rfl⟩ | ⟨vm, rfl, _, hm⟩
  · rcases hh with ⟨rfl, rfl⟩ | ⟨v, rfl, _, hh⟩ <;> rcases hl with ⟨rfl, rfl⟩ | ⟨u, rfl, _, hl⟩ <;>
      simp only [Sem.run_bind, Sem.run_pure, Result.andThen_ok, if_true]
    · simp [hl _ _ (Nat.le_refl _)]
    · simp [hh _ _ hlc]
    · simp [hh _ _ hlc, hl _ _ (Nat.le_refl _)]
  · rcases hh with ⟨rfl, rfl⟩ | ⟨v, rfl, _, hh⟩
    · cases hno rfl
    · rcases hl with ⟨rfl, rfl⟩ | ⟨u, rfl, _, hl⟩ <;> simp only [Sem.run_bind, Sem.run_pure, Result.andThen_ok, reduceCtorEq, if_false]
      · simp [hm _ _ hlc, hh _ _ (Nat.le_refl _)]
      · simp [hm _ _ hlc, hh _ _ (Nat.le_refl _), hl _ _ (Nat.le_refl _)]

theorem slcs_sound (hr : HRel g h W) {t : Nat} (ht : isString P t = true) {x : AV} {xv : Value} (hx : VRel g W (U g h) x xv) {lo hi : Option AV} {lov hiv : Option Value}
    (hlo : OptR g W (U g h) lo lov) (hhi : OptR g W (U g h) hi hiv) {a' : AV} (hs : sliceS x lo hi = some a') : VRes P (Instr.sliceAt t xv lov hiv none) g h W a' h := by
  cases x with
  | str st =>
    obtain ⟨b, rfl, rfl⟩ := inv_str hx
    simp only [sliceS] at hs
    obtain ⟨h', h1, h2⟩ := bind_some_iff.1 hs
    obtain ⟨l, h3, h4⟩ := bind_some_iff.1 h2
    simp at h4; subst h4
    rw [len_bytesOf] at h1
    have hb := run_bounds3 (P := P) (W := W) (isSlice := false) (len := b.size) (cap := b.size) (bound_sound' hlo h3) (bound_sound' hhi h1) (Nat.le_refl _)
    refine VRes.same hr (x := .string (b.extract l h')) ?_ (by rw [← bytes_extract]; exact .pure _ _ (.str _))
    unfold Instr.sliceAt
    rw [Sem.run_bind, run_underlying (of_isString ht)]
    simp only [Result.andThen_ok]
    unfold Instr.slice
    rw [Sem.run_bind, run_underlying (of_isString ht)]
    simp only [Result.andThen_ok, Option.isSome_none, Bool.false_eq_true, if_false, Sem.run_bind, Sem.run_pure, hb]
  | _ => simp [sliceS] at hs

theorem run_slice_s {t s : Nat} (ht : sliceOK P t s = true) {a : Option Addr} {len cap l h' m : Nat} {lo hi mx : Option Value} (hb : (Instr.sliceBounds true len cap lo hi mx).run P W = .ok (l, h', m) W) :
    (Instr.sliceAt t (.slice a len cap) lo hi mx).run P W = .ok (.slice (if m = l then a else a.map (·.add (l * s))) (h' - l) (m - l)) W := by
  unfold sliceOK at ht
  split at ht
  · rename_i e hu
    unfold Instr.sliceAt
    rw [Sem.run_bind, run_underlying hu]
    simp only [Result.andThen_ok]
    unfold Instr.slice
    rw [Sem.run_bind, run_underlying hu]
    simp only [Result.andThen_ok, Sem.run_bind, Sem.run_pure, hb, run_size ht]
  · cases ht

/-- a part of a slice that is told by value -/
theorem pvs_part {V : Nat → Nat → Prop} {e : List (List AV)} {a : Option Addr} {cap s : Nat} (hp : PRel W V (.vs e .shared) (.slice a e.length cap)) (hz : e.all (fun c => c.length == s) = true) {l h' m : Nat} (hl : l ≤ h') (hh : h' ≤ e.length) (hm : h' ≤ m) :
    PRel W V (.vs ((e.drop l).take (h' - l)) .shared) (.slice (if m = l then a else a.map (·.add (l * s))) (h' - l) (m - l)) := by
  have hlen : ((e.drop l).take (h' - l)).length = h' - l := by simp; omega
  by_cases h0 : h' = l
  · subst h0
    have : (e.drop h').take (h' - h') = [] := by simp
    rw [this, Nat.sub_self]
    exact .vs0 _ _
  · rcases inv_pvs hp with ⟨rfl, _⟩ | ⟨b, o, z, cap', he, hc', hz', hval⟩
    · simp at hh; omega
    · simp at he; obtain ⟨rfl, rfl⟩ := he
      have hzs : z = s := by
        have hlt : l < e.length := by omega
        have h1 := List.all_eq_true.1 hz e[l] (by simp)
        simp at h1
        rw [← hz' e[l] (by simp)]; exact h1
      subst hzs
      have hml : ¬ m = l := by omega
      simp only [hml, if_false, Option.map_some, add_none]
      have key := mk_pvs (W := W) (V := V) (e := (e.drop l).take (h' - l)) (b := b) (off := o + l * z) (z := z) (cap := m - l) (by rw [hlen]; omega)
        (fun x hx => hz' x (List.mem_of_mem_drop (List.mem_of_mem_take hx))) (fun i c j av hi hj => by
          have hi' : i < h' - l := by rw [← hlen]; exact (List.getElem?_eq_some_iff.1 hi).1
          rw [List.getElem?_take_of_lt hi', List.getElem?_drop] at hi
          obtain ⟨x, h1, h2, h3⟩ := hval (l + i) c j av hi hj
          have e1 : o + (l + i) * z + j = o + l * z + i * z + j := by rw [Nat.add_mul]; omega
          rw [e1] at h1 h2
          exact ⟨x, h1, h2, h3⟩)
      rw [hlen] at key
      exact key

theorem vs_slice {V : Nat → Nat → Prop} {e : List (List AV)} {tk : Tok} {v : Value} (h : VRel g W V (.vs e tk) v) : ∃ a cap, v = .slice a e.length cap ∧ e.length ≤ cap := by
  rcases inv_pvs (inv_vs h) with ⟨rfl, a, cap, rfl⟩ | ⟨b, o, z, cap, rfl, hc, _⟩
  · exact ⟨a, cap, rfl, Nat.zero_le _⟩
  · exact ⟨_, cap, rfl, hc⟩

theorem slc_sound (hr : HRel g h W) {t s : Nat} (ht : sliceOK P t s = true) {x : AV} {xv : Value} (hx : VRel g W (U g h) x xv) {lo hi mx : Option AV} {lov hiv mxv : Option Value}
    (hlo : OptR g W (U g h) lo lov) (hhi : OptR g W (U g h) hi hiv) (hmx : OptR g W (U g h) mx mxv) (hno : hi = none → mx = none) {a' : AV}
    (hs : sliceA s h x lo hi mx = some a') : VRes P (Instr.sliceAt t xv lov hiv mxv) g h W a' h := by
  have hno' : hiv = none → mxv = none := fun hn => by
    subst hn
    cases hi with
    | some _ => exact hhi.elim
    | none =>
      rw [hno rfl] at hmx
      cases mxv <;> first | rfl | exact hmx.elim
  cases x with
  | vs e tk =>
    simp only [sliceA] at hs
    split at hs
    · rename_i hall
      obtain ⟨m, h1, h2⟩ := bind_some_iff.1 hs
      obtain ⟨h', h3, h4⟩ := bind_some_iff.1 h2
      obtain ⟨l, h5, h6⟩ := bind_some_iff.1 h4
      simp at h6; subst h6
      obtain ⟨a, cap, rfl, hc⟩ := vs_slice hx
      have hmb := bound_sound' (P := P) (W := W) hmx h1
      obtain ⟨hb, hl, hh⟩ := run_bounds4 (P := P) (W := W) (len := e.length) (cap := cap) hmb (bound_sound' hhi h3) (bound_sound' hlo h5) hc hno'
      have hm' : h' ≤ if mxv = none then cap else m := by
        rcases hmb with ⟨rfl, rfl⟩ | ⟨v, rfl, hle, _⟩
        · simp; omega
        · simp
          rcases bound_sound' (P := P) (W := W) hhi h3 with ⟨hn, _⟩ | ⟨u, _, hle', _⟩
          · cases hno' hn
          · exact hle'
      refine VRes.same hr (run_slice_s ht hb) ?_
      have hpart := pvs_part (inv_vs hx) hall hl hh hm'
      cases mx with
      | some mv =>
        cases mxv with
        | none => exact hmx.elim
        | some mvv =>
          simp only [reduceCtorEq, if_false] at hpart ⊢
          split
          · rename_i hhm; subst hhm; exact .vsx _ _ _ hpart
          · exact .pure _ _ hpart
      | none =>
        cases mxv with
        | some _ => exact hmx.elim
        | none =>
          simp only [if_true] at hpart ⊢
          cases tk with
          | shared => exact .pure _ _ hpart
          | exact =>
            simp only [sliceTok]
            split
            · rename_i hhm
              have hcl : cap = e.length := by
                cases hx with
                | vsx _ _ _ _ => rfl
                | pure _ _ hp => cases hp
              rw [hcl] at hpart ⊢
              rw [hhm] at hpart ⊢
              exact .vsx _ _ _ hpart
            · exact .pure _ _ hpart
          | grow gi st =>
            simp only [sliceTok]
            split
            · rename_i hln
              cases hx with
              | pure _ _ hp => cases hp
              | vsg _ _ _ r c z n cap hp hz hg hcc =>
                have hzs : z = s := by
                  have hlt : 0 < e.length := by omega
                  have h7 := List.all_eq_true.1 hall e[0] (by simp)
                  simp at h7
                  rw [← hz e[0] (by simp)]; exact h7
                subst hzs
                have hml : ¬ cap = l := by omega
                simp only [hml, if_false, Option.map_some, add_none] at hpart ⊢
                have e1 : c + st * z + l * z = c + (st + l) * z := by rw [Nat.add_mul]; omega
                rw [e1] at hpart ⊢
                exact .vsg _ _ _ r c z _ _ hpart (fun x hx => hz x (List.mem_of_mem_drop (List.mem_of_mem_take hx))) hg (by omega)
            · exact .pure _ _ hpart
    · cases hs
  | ms id st n =>
    simp only [sliceA] at hs
    split at hs
    · rename_i z rs hg
      split at hs
      · rename_i hz
        obtain ⟨h', h3, h4⟩ := bind_some_iff.1 hs
        obtain ⟨l, h5, h6⟩ := bind_some_iff.1 h4
        simp at h6; subst h6
        obtain ⟨r, x0, z', cap, a, hm, hc, rfl, ha⟩ := inv_ms hx
        have hmv : mxv = none := by cases mxv <;> first | rfl | exact hmx.elim
        subst hmv
        obtain ⟨r2, x2, _, _, hg2, _⟩ := hr.blk id _ hg
        rw [hm] at hg2; simp at hg2; obtain ⟨rfl, rfl, rfl⟩ := hg2
        subst hz
        obtain ⟨hb, hl, hh⟩ := run_bounds4 (P := P) (W := W) (m := n) (len := n) (cap := cap) (mx := none) (.inl ⟨rfl, rfl⟩) (bound_sound' hhi h3) (bound_sound' hlo h5) hc hno'
        simp only [if_true] at hb
        refine VRes.same hr (run_slice_s ht hb) ?_
        by_cases hcl : cap = l
        · have h0 : h' - l = 0 := by omega
          have h1 : cap - l = 0 := by omega
          simp only [hcl, if_true, Nat.sub_self]
          rw [h0]
          exact .ms id (st + l) 0 0 r x0 z' a (Nat.le_refl _) hm (.inr ⟨rfl, rfl⟩)
        · simp only [hcl, if_false]
          refine .ms id (st + l) (h' - l) (cap - l) r x0 z' _ (by omega) hm ?_
          rcases ha with ⟨rfl, h0⟩ | ⟨h1, h2⟩
          · left
            refine ⟨?_, by omega⟩
            simp only [Option.map_some, add_none]
            rw [Nat.add_mul, ← Nat.add_assoc]
          · right; omega
      · cases hs
    · cases hs
  | _ => simp [sliceA] at hs

end
end Go.Proofs.YtfahpmlckobpmaaGreatDoor.Pi
/-
  Numbers, texts, tests; lengths; conversions; new maps and rows.
-/
namespace Go.Proofs.YtfahpmlckobpmaaGreatDoor.Pi
open Go

section
variable {P : Program} {g : G} {h : AH} {W : World}

theorem run_intOp (op : BinOp) (k : IntKind) (a b : Int) {v : AV} (hv : intOp op k a b = some v) (t : TypeId) (hs : ¬ (op = .shl ∨ op = .shr)) :
    ∃ x, (binOp op t (.int k a) (.int k b)).run P W = .ok x W ∧ VRel g W (U g h) v x := by
  cases op <;> simp only [intOp, Option.some.injEq, reduceCtorEq] at hv
  case add => subst hv; exact ⟨_, by rw [binOp_add]; rfl, .pure _ _ (.int _ _)⟩
  case sub => subst hv; exact ⟨_, by rw [binOp_sub]; rfl, .pure _ _ (.int _ _)⟩
  case mul => subst hv; exact ⟨_, by rw [binOp_mul]; rfl, .pure _ _ (.int _ _)⟩
  case quo =>
    split at hv
    · cases hv
    · rename_i h0
      simp at hv; subst hv
      exact ⟨_, by rw [binOp_quo]; simp only [Op.intDiv, h0, if_false]; rfl, .pure _ _ (.int _ _)⟩
  case rem =>
    split at hv
    · cases hv
    · rename_i h0
      simp at hv; subst hv
      exact ⟨_, by rw [binOp_rem]; simp only [Op.intDiv, h0, if_false]; rfl, .pure _ _ (.int _ _)⟩
  case and => subst hv; exact ⟨_, by rw [binOp_and]; rfl, .pure _ _ (.int _ _)⟩
  case or => subst hv; exact ⟨_, by rw [binOp_or]; rfl, .pure _ _ (.int _ _)⟩
  case xor => subst hv; exact ⟨_, by rw [binOp_xor]; rfl, .pure _ _ (.int _ _)⟩
  case andNot => subst hv; exact ⟨_, by rw [binOp_andNot]; rfl, .pure _ _ (.int _ _)⟩
  case eql => subst hv; exact ⟨_, by rw [binOp_eql]; rfl, .pure _ _ (.bool _)⟩
  case neq => subst hv; exact ⟨_, by rw [binOp_neq]; rfl, .pure _ _ (.bool _)⟩
  case lss => subst hv; exact ⟨_, by rw [binOp_lss]; rfl, .pure _ _ (.bool _)⟩
  case leq => subst hv; exact ⟨_, by rw [binOp_leq]; rfl, .pure _ _ (.bool _)⟩
  case gtr => subst hv; exact ⟨_, by rw [binOp_gtr]; rfl, .pure _ _ (.bool _)⟩
  case geq => subst hv; exact ⟨_, by rw [binOp_geq]; rfl, .pure _ _ (.bool _)⟩

theorem run_shiftOp (op : BinOp) (k l : IntKind) (a b : Int) {v : AV} (hv : shiftOp op k a b = some v) (t : TypeId) :
    ∃ x, (binOp op t (.int k a) (.int l b)).run P W = .ok x W ∧ VRel g W (U g h) v x := by
  unfold shiftOp at hv
  split at hv
  · cases hv
  · rename_i h0
    cases op <;> simp only [Option.some.injEq, reduceCtorEq] at hv
    case shl => subst hv; exact ⟨_, by rw [binOp_shl]; simp only [Op.shift, h0, if_false]; rfl, .pure _ _ (.int _ _)⟩
    case shr => subst hv; exact ⟨_, by rw [binOp_shr]; simp only [Op.shift, h0, if_false]; rfl, .pure _ _ (.int _ _)⟩

theorem bytesOf_inj {a b : ByteArray} : bytesOf a = bytesOf b ↔ a.data.toList = b.data.toList := by
  unfold bytesOf
  constructor
  · intro e
    exact (List.map_inj_right (fun x y hxy => UInt8.toNat_inj.1 hxy)).1 e
  · intro e; rw [e]

theorem less_eq : ∀ (x y : List UInt8), Op.bytesLess x y = strLess (x.map UInt8.toNat) (y.map UInt8.toNat)
  | [], [] => rfl
  | _ :: _, [] => rfl
  | [], _ :: _ => rfl
  | a :: x, b :: y => by
    simp only [Op.bytesLess, strLess, List.map_cons, less_eq x y]
    congr 1
    congr 1
    rw [Bool.eq_iff_iff]
    simp [UInt8.toNat_inj]

theorem eq_bytes (a b : ByteArray) : (a.toList == b.toList) = decide (bytesOf a = bytesOf b) := by
  rw [ByteArray.toList_eq, ByteArray.toList_eq, Bool.eq_iff_iff]
  simp [bytesOf_inj]

theorem less_bytes (a b : ByteArray) : Op.bytesLess a.toList b.toList = strLess (bytesOf a) (bytesOf b) := by
  rw [ByteArray.toList_eq, ByteArray.toList_eq, less_eq]; rfl

theorem bytes_append (a b : ByteArray) : bytesOf (a ++ b) = bytesOf a ++ bytesOf b := by
  simp [bytesOf, ByteArray.data_append]

theorem run_strOp (op : BinOp) (a b : ByteArray) {v : AV} (hv : strOp op (bytesOf a) (bytesOf b) = some v) (t : TypeId) :
    ∃ x, (binOp op t (.string a) (.string b)).run P W = .ok x W ∧ VRel g W (U g h) v x := by
  have hb : binOp op t (.string a) (.string b) = Op.stringOp op a b := by cases op <;> rfl
  rw [hb]
  cases op <;> simp only [strOp, Option.some.injEq, reduceCtorEq] at hv
  case add =>
    split at hv
    · rename_i hl
      simp at hv; subst hv
      rw [len_bytesOf, len_bytesOf] at hl
      unfold maxStr at hl
      refine ⟨.string (a ++ b), ?_, by rw [← bytes_append]; exact .pure _ _ (.str _)⟩
      have : ¬ (((a.size + b.size : Nat) : Int) > IntKind.i64.max) := by rw [IntKind.max_i64]; omega
      simp only [Op.stringOp, this, if_false]
      rfl
    · cases hv
  all_goals
    subst hv
    refine ⟨_, by simp only [Op.stringOp]; rfl, ?_⟩
    simp only [eq_bytes, less_bytes]
    exact .pure _ _ (.bool _)

/-- the type at which two values are held against each other -/
def eqTypeOK (P : Program) (t : TypeId) (kd : EqK) (x y : Operand) : Bool :=
  match kd, P.underlying t with
  | .plain, _ => true
  | .bool, some .bool => true
  | .ptr, some (.pointer _) => true
  | .iface, some (.interface _) => (match (generalizing := false) x with | .const _ => true | _ => false) || (match y with | .const _ => true | _ => false)
  | .func, some (.func _ _ _) => true
  | .map, some (.map _ _) => true
  | _, _ => false

theorem nil_or {V : Nat → Nat → Prop} {kd : EqK} {a : AV} {v : Value} (hv : VRel g W V a v) {b : Bool} (hn : isNil kd a = some b) :
    (kd = .ptr ∧ ((b = true ∧ v = .pointer none) ∨ (b = false ∧ ∃ p, v = .pointer (some p)))) ∨ (kd = .iface ∧ ((b = true ∧ v = .nilIface) ∨ (b = false ∧ ∃ t x, v = .iface t x))) ∨
    (kd = .func ∧ ((b = true ∧ v = .nilFunc) ∨ (b = false ∧ ∃ f x y, v = .func f x y))) ∨ (kd = .map ∧ ((b = true ∧ v = .map none) ∨ (b = false ∧ ∃ r, v = .map (some r)))) := by
  cases kd <;> cases a <;> simp only [isNil, Option.some.injEq, reduceCtorEq] at hn
  · subst hn; exact .inl ⟨rfl, .inl ⟨rfl, inv_nilp hv⟩⟩
  · subst hn; obtain ⟨b, o, _, rfl, _⟩ := inv_ref hv; exact .inl ⟨rfl, .inr ⟨rfl, _, rfl⟩⟩
  · subst hn; obtain ⟨r, x, z, _, rfl⟩ := inv_ptr hv; exact .inl ⟨rfl, .inr ⟨rfl, _, rfl⟩⟩
  · subst hn; obtain ⟨x, rfl, _⟩ := inv_iface hv; exact .inr (.inl ⟨rfl, .inr ⟨rfl, _, _, rfl⟩⟩)
  · subst hn; exact .inr (.inl ⟨rfl, .inl ⟨rfl, inv_nili hv⟩⟩)
  · subst hn; obtain ⟨x, y, rfl, _⟩ := inv_fn hv; exact .inr (.inr (.inl ⟨rfl, .inr ⟨rfl, _, _, _, rfl⟩⟩))
  · subst hn; exact .inr (.inr (.inl ⟨rfl, .inl ⟨rfl, inv_nilf hv⟩⟩))
  · subst hn; exact .inr (.inr (.inr ⟨rfl, .inl ⟨rfl, inv_nilm hv⟩⟩))
  · subst hn; obtain ⟨r, x, z, _, rfl⟩ := inv_map hv; exact .inr (.inr (.inr ⟨rfl, .inr ⟨rfl, _, rfl⟩⟩))

theorem et_bool {t : TypeId} {x y : Operand} (h : eqTypeOK P t .bool x y = true) : P.underlying t = some .bool := by
  unfold eqTypeOK at h
  cases hu : P.underlying t with
  | none => simp [hu] at h
  | some d => cases d <;> first | rfl | simp [hu] at h
theorem et_ptr {t : TypeId} {x y : Operand} (h : eqTypeOK P t .ptr x y = true) : ∃ e, P.underlying t = some (.pointer e) := by
  unfold eqTypeOK at h
  cases hu : P.underlying t with
  | none => simp [hu] at h
  | some d => cases d <;> first | exact ⟨_, rfl⟩ | simp [hu] at h
theorem et_func {t : TypeId} {x y : Operand} (h : eqTypeOK P t .func x y = true) : ∃ a b c, P.underlying t = some (.func a b c) := by
  unfold eqTypeOK at h
  cases hu : P.underlying t with
  | none => simp [hu] at h
  | some d => cases d <;> first | exact ⟨_, _, _, rfl⟩ | simp [hu] at h
theorem et_map {t : TypeId} {x y : Operand} (h : eqTypeOK P t .map x y = true) : ∃ a b, P.underlying t = some (.map a b) := by
  unfold eqTypeOK at h
  cases hu : P.underlying t with
  | none => simp [hu] at h
  | some d => cases d <;> first | exact ⟨_, _, rfl⟩ | simp [hu] at h
theorem et_iface {t : TypeId} {x y : Operand} (h : eqTypeOK P t .iface x y = true) : (∃ m, P.underlying t = some (.interface m)) ∧ ((∃ c, x = .const c) ∨ ∃ c, y = .const c) := by
  unfold eqTypeOK at h
  cases hu : P.underlying t with
  | none => simp [hu] at h
  | some d =>
    cases d <;> first | (simp [hu] at h; done) | skip
    refine ⟨⟨_, rfl⟩, ?_⟩
    simp only [hu, Bool.or_eq_true] at h
    rcases h with h | h
    · cases x <;> first | exact .inl ⟨_, rfl⟩ | cases h
    · cases y <;> first | exact .inr ⟨_, rfl⟩ | cases h

theorem eq_of_equal {op : BinOp} {t : TypeId} {x y : Value} {b : Bool} {v : AV} {xo yo : Operand} (he : eqRes op b = some v) (hg : ∀ o, eqGuard o t xo yo x y = pure ())
    (h1 : binOp .eql t x y = (do pure (.bool (← Op.equal t x y)))) (h2 : binOp .neq t x y = (do pure (.bool (!(← Op.equal t x y))))) (hr : HRel g h W) (hq : (Op.equal t x y).run P W = .ok b W) :
    VRes P (do eqGuard op t xo yo x y; binOp op t x y) g h W v h := by
  cases op <;> simp only [eqRes, Option.some.injEq, reduceCtorEq] at he
  · subst he
    refine VRes.same hr (x := .bool b) ?_ (.pure _ _ (.bool _))
    rw [hg, h1]; simp [hq]
  · subst he
    refine VRes.same hr (x := .bool (!b)) ?_ (.pure _ _ (.bool _))
    rw [hg, h2]; simp [hq]

theorem run_equal_d {t : TypeId} {d : TypeDesc} (hu : P.underlying t = some d) (x y : Value) : (Op.equal t x y).run P W = (Op.equalIn 10000 t x y).run P W := rfl

theorem bin_sound (hr : HRel g h W) {kd : EqK} {op : BinOp} {t : TypeId} {xo yo : Operand} (ht : eqTypeOK P t kd xo yo = true) {x y : AV} {xv yv : Value} (hx : VRel g W (U g h) x xv) (hy : VRel g W (U g h) y yv) {v : AV}
    (hv : binOpA kd op x y = some v) : VRes P (do eqGuard op t xo yo xv yv; binOp op t xv yv) g h W v h := by
  have nils : ∀ (bx bb : Bool), isNil kd x = some bx → isNil kd y = some bb → (bx = true ∨ bb = true) → eqRes op (bx && bb) = some v → VRes P (do eqGuard op t xo yo xv yv; binOp op t xv yv) g h W v h := by
    intro bx bb h1 h2 hor he
    rcases nil_or hx h1 with ⟨rfl, hxx⟩ | ⟨rfl, hxx⟩ | ⟨rfl, hxx⟩ | ⟨rfl, hxx⟩ <;> rcases nil_or hy h2 with ⟨hk, hyy⟩ | ⟨hk, hyy⟩ | ⟨hk, hyy⟩ | ⟨hk, hyy⟩ <;> first | (cases hk; done) | skip
    · obtain ⟨e, hu⟩ := et_ptr ht
      rcases hxx with ⟨rfl, rfl⟩ | ⟨rfl, p, rfl⟩ <;> rcases hyy with ⟨rfl, rfl⟩ | ⟨rfl, q, rfl⟩ <;> first | (simp at hor; done) | skip
      all_goals (refine eq_of_equal he (fun o => by cases o <;> rfl) rfl rfl hr ?_; unfold Op.equal Op.maxDepth Op.equalIn; rw [Sem.run_bind, run_underlying hu]; rfl)
    · obtain ⟨⟨m, hu⟩, hc⟩ := et_iface ht
      rcases hxx with ⟨rfl, rfl⟩ | ⟨rfl, p, q, rfl⟩ <;> rcases hyy with ⟨rfl, rfl⟩ | ⟨rfl, p', q', rfl⟩
      · have hg : ∀ o, eqGuard o t xo yo .nilIface .nilIface = pure () := by
          intro o
          rcases hc with ⟨c, rfl⟩ | ⟨c, rfl⟩
          · exact eqGuard_nil_constL ..
          · exact eqGuard_nil_constR ..
        refine eq_of_equal he hg rfl rfl hr ?_
        unfold Op.equal Op.maxDepth Op.equalIn; rw [Sem.run_bind, run_underlying hu]; rfl
      · refine eq_of_equal he (fun o => by cases o <;> rfl) rfl rfl hr ?_
        unfold Op.equal Op.maxDepth Op.equalIn; rw [Sem.run_bind, run_underlying hu]; rfl
      · refine eq_of_equal he (fun o => by cases o <;> rfl) rfl rfl hr ?_
        unfold Op.equal Op.maxDepth Op.equalIn; rw [Sem.run_bind, run_underlying hu]; rfl
      · simp at hor
    · obtain ⟨a, b, c, hu⟩ := et_func ht
      rcases hxx with ⟨rfl, rfl⟩ | ⟨rfl, p, q, q2, rfl⟩ <;> rcases hyy with ⟨rfl, rfl⟩ | ⟨rfl, p', q', q3, rfl⟩ <;> first | (simp at hor; done) | skip
      all_goals (refine eq_of_equal he (fun o => by cases o <;> rfl) rfl rfl hr ?_; unfold Op.equal Op.maxDepth Op.equalIn; rw [Sem.run_bind, run_underlying hu]; rfl)
    · obtain ⟨a, b, hu⟩ := et_map ht
      rcases hxx with ⟨rfl, rfl⟩ | ⟨rfl, p, rfl⟩ <;> rcases hyy with ⟨rfl, rfl⟩ | ⟨rfl, p', rfl⟩ <;> first | (simp at hor; done) | skip
      all_goals (refine eq_of_equal he (fun o => by cases o <;> rfl) rfl rfl hr ?_; unfold Op.equal Op.maxDepth Op.equalIn; rw [Sem.run_bind, run_underlying hu]; rfl)
  have nils' : (match isNil kd x, isNil kd y with | some true, some b => eqRes op b | some false, some true => eqRes op false | _, _ => none) = some v → VRes P (do eqGuard op t xo yo xv yv; binOp op t xv yv) g h W v h := by
    intro he
    cases h1 : isNil kd x with
    | none => simp [h1] at he
    | some bx =>
      cases h2 : isNil kd y with
      | none => cases bx <;> simp [h1, h2] at he
      | some bb =>
        cases bx <;> cases bb <;> simp only [h1, h2, reduceCtorEq] at he
        · exact nils false true h1 h2 (.inr rfl) he
        · exact nils true false h1 h2 (.inl rfl) he
        · exact nils true true h1 h2 (.inl rfl) he
  unfold binOpA at hv
  cases kd with
  | plain =>
    simp only at hv
    split at hv
    · rename_i k a k' b
      obtain rfl := inv_int hx
      obtain rfl := inv_int hy
      have hg : eqGuard op t xo yo (.int k a) (.int k' b) = pure () := eqGuard_at_int ..
      split at hv
      · obtain ⟨z, h1, h2⟩ := run_shiftOp (P := P) (g := g) (h := h) (W := W) op k k' a b hv t
        exact VRes.same hr (by rw [hg]; simpa using h1) h2
      · rename_i hns
        split at hv
        · rename_i hk; subst hk
          obtain ⟨z, h1, h2⟩ := run_intOp (P := P) (g := g) (h := h) (W := W) op k a b hv t hns
          exact VRes.same hr (by rw [hg]; simpa using h1) h2
        · cases hv
    · rename_i a b
      obtain ⟨sa, rfl, rfl⟩ := inv_str hx
      obtain ⟨sb, rfl, rfl⟩ := inv_str hy
      obtain ⟨z, h1, h2⟩ := run_strOp (P := P) (g := g) (h := h) (W := W) op sa sb hv t
      have hg : eqGuard op t xo yo (.string sa) (.string sb) = pure () := eqGuard_at_string ..
      exact VRes.same hr (by rw [hg]; simpa using h1) h2
    · cases hv
  | bool =>
    simp only at hv
    split at hv
    · rename_i a b
      obtain rfl := inv_bool hx
      obtain rfl := inv_bool hy
      have hu := et_bool ht
      exact eq_of_equal hv (fun o => eqGuard_at_bool ..) rfl rfl hr (run_equal_bool W t a b hu)
    · cases hv
  | ptr => exact nils' hv
  | iface => exact nils' hv
  | func => exact nils' hv
  | map => exact nils' hv

theorem un_sound (hr : HRel g h W) {op : UnOp} {x : AV} {xv : Value} (hx : VRel g W (U g h) x xv) {v : AV} (hv : unOpA op x = some v) : VRes P (Op.unary op xv) g h W v h := by
  cases op <;> cases x <;> simp only [unOpA, intOp, Option.some.injEq, reduceCtorEq] at hv
  · subst hv; obtain rfl := inv_int hx; exact VRes.same hr (x := _) rfl (.pure _ _ (.int _ _))
  · subst hv; obtain rfl := inv_int hx; exact VRes.same hr (x := _) rfl (.pure _ _ (.int _ _))
  · subst hv; obtain rfl := inv_bool hx; exact VRes.same hr (x := _) rfl (.pure _ _ (.bool _))

def convOK (P : Program) (s d : TypeId) (k : IntKind) : Bool :=
  match P.underlying s, P.underlying d with
  | some (.int _), some (.int l) => decide (k = l)
  | _, _ => false

theorem conv_sound (hr : HRel g h W) {s d : TypeId} {k l : IntKind} (ht : convOK P s d k = true) {n : Int} {xv : Value} (hx : VRel g W (U g h) (.int l n) xv) : VRes P (convert s d xv) g h W (.int k (k.wrap n)) h := by
  unfold convOK at ht
  split at ht
  · rename_i a b hs hd
    simp at ht; subst ht
    obtain rfl := inv_int hx
    refine VRes.same hr (x := .int k (k.wrap n)) ?_ (.pure _ _ (.int _ _))
    unfold convert
    rw [Sem.run_bind, run_underlying hs]
    simp only [Result.andThen_ok]
    rw [Sem.run_bind, run_underlying hd]
    rfl
  · cases ht

/-! ### lengths -/
def isSliceT (P : Program) (t : TypeId) : Bool := match P.underlying t with | some (.slice _) => true | _ => false
def isMapT (P : Program) (t : TypeId) : Bool := match P.underlying t with | some (.map _ _) => true | _ => false

theorem lens_sound (hr : HRel g h W) {t ty : TypeId} (ht : isString P t = true) {s : List Nat} {xv : Value} (hx : VRel g W (U g h) (.str s) xv) : VRes P (Builtin.len_ #[t] ty #[xv]) g h W (.int .i64 s.length) h := by
  obtain ⟨b, rfl, rfl⟩ := inv_str hx
  refine VRes.same hr (x := .int .i64 b.size) ?_ (by rw [len_bytesOf]; exact .pure _ _ (.int _ _))
  simp [Builtin.len_, run_underlying (of_isString ht), goInt]

theorem lenv_sound (hr : HRel g h W) {t ty : TypeId} (ht : isSliceT P t = true) {x : AV} {xv : Value} (hx : VRel g W (U g h) x xv) {n : Nat} (hn : (match (generalizing := false) x with | .vs e _ => some e.length | .ms _ _ n => some n | _ => none) = some n) :
    VRes P (Builtin.len_ #[t] ty #[xv]) g h W (.int .i64 n) h := by
  unfold isSliceT at ht
  split at ht
  · rename_i e hu
    have run : ∀ (a : Option Addr) (n c : Nat), (Builtin.len_ #[t] ty #[.slice a n c]).run P W = .ok (.int .i64 n) W := fun a n c => by simp [Builtin.len_, run_underlying hu, goInt]
    cases x with
    | vs el tk =>
      simp at hn; subst hn
      obtain ⟨a, cap, rfl, _⟩ := vs_slice hx
      exact VRes.same hr (run a _ cap) (.pure _ _ (.int _ _))
    | ms id s m =>
      simp at hn; subst hn
      obtain ⟨r, y, z, cap, a, _, _, rfl, _⟩ := inv_ms hx
      exact VRes.same hr (run a _ cap) (.pure _ _ (.int _ _))
    | _ => simp at hn
  · cases ht

theorem lenm_sound (hr : HRel g h W) {t ty : TypeId} (ht : isMapT P t = true) {x : AV} {xv : Value} (hx : VRel g W (U g h) x xv) {n : Nat}
    (hn : (match (generalizing := false) x with | .nilm => some 0 | .map id => (match h.get id with | some (.map es) => some es.length | _ => none) | _ => none) = some n) :
    VRes P (Builtin.len_ #[t] ty #[xv]) g h W (.int .i64 n) h := by
  unfold isMapT at ht
  split at ht
  · rename_i k e hu
    cases x with
    | nilm =>
      simp at hn; subst hn
      obtain rfl := inv_nilm hx
      exact VRes.same hr (x := .int .i64 0) (by simp [Builtin.len_, run_underlying hu, goInt]) (.pure _ _ (.int _ _))
    | map id =>
      simp only at hn
      split at hn
      · rename_i es hg
        simp at hn; subst hn
        obtain ⟨r, x', z, hm, rfl⟩ := inv_map hx
        obtain ⟨r', x'', z'', arr, cl, hm', hh, hs, _⟩ := hr.blk id _ hg
        rw [hm] at hm'; simp at hm'; obtain ⟨rfl, rfl, rfl⟩ := hm'
        refine VRes.same hr (x := .int .i64 es.length) ?_ (.pure _ _ (.int _ _))
        simp [Builtin.len_, run_underlying hu, getObj, Sem.run, hh, goInt, hs]
      · cases hn
    | _ => simp at hn
  · cases ht

/-! ### new maps, new rows -/
theorem mkMap_sound (hr : HRel g h W) {t : TypeId} {res : Option Value} (hres : res = none) : VRes P (Instr.makeMap t res) g h W (.map h.next) (h.push (.map [])) := by
  subst hres
  obtain ⟨g', h1, h2, h3, _⟩ := push_sound hr ((More.refl W).alloc (.map #[] 0)) (.map []) W.heap.size 0 0 0 (Nat.le_refl _)
    (fun g' V' hg hk hm _ => ⟨W.heap.size, 0, 0, #[], 0, hm, by show (W.heap.push _)[W.heap.size]? = _; simp, rfl, fun i k v e h1 => by simp at h1⟩) (by simp [blkRefs])
  refine ⟨.map (some W.heap.size), W.alloc (.map #[] 0), g', ?_, h1, h2, .map _ _ _ _ h3⟩
  simp [Instr.makeMap, run_newObj]

end
end Go.Proofs.YtfahpmlckobpmaaGreatDoor.Pi
/-
  append: on slices told by value, and on numbered ones.
-/
namespace Go.Proofs.YtfahpmlckobpmaaGreatDoor.Pi
open Go

section
variable {P : Program} {g : G} {h : AH} {W : World}

theorem get_drop {id : Nat} (i : Nat) : (h.drop id).get i = if i = id then none else h.get i := by
  simp only [AH.get, AH.drop, List.getElem?_set]
  by_cases hi : id = i
  · subst hi
    by_cases hl : id < h.bl.length
    · simp [hl]
    · simp [hl]
  · simp [hi, Ne.symm hi]

theorem len_drop {id : Nat} : (h.drop id).bl.length = h.bl.length := by simp [AH.drop]

theorem get_drop_push {id : Nat} {b : ABlk} (i : Nat) : ((h.drop id).push b).get i = if i = h.bl.length then some b else if i = id then none else h.get i := by
  rw [get_push, len_drop, get_drop]

/-- one numbered block becomes another one, in the same memory -/
theorem replace_sound (hr : HRel g h W) {id r x z : Nat} {old : ABlk} (hg : h.get id = some old) (hm : g.mb id = some (r, x, z)) {W' : World} (hos : W'.os = W.os) (htape : W'.tape = W.tape) (hout : W'.output = W.output)
    (hsize : W'.heap.size = W.heap.size) (hother : ∀ b, b ≠ r → W'.heap[b]? = W.heap[b]?) (hcell : ∀ o v, U g h r o → W.cell? ⟨r, o, none⟩ = some v → W'.cell? ⟨r, o, none⟩ = some v)
    (blk : ABlk) (x' z' c' : Nat) (hown : ∀ o, (match blk with | .grow _ f => x' + f * z' ≤ o | _ => True) → ¬ U g h r o)
    (hbr : ∀ (g' : G) (V' : Nat → Nat → Prop), GLe g g' → Keeps W (U g h) W' V' → (∀ o, ¬ (match blk with | .grow _ f => x' + f * z' ≤ o | _ => True) → V' r o) → g'.mb h.bl.length = some (r, x', z') → g'.cp h.bl.length = c' → BRel g' W' V' h.bl.length blk)
    (hesc : ∀ q ∈ blkRefs blk, q ≤ h.bl.length) :
    ∃ g', HRel g' ((h.drop id).push blk) W' ∧ Ext g h W g' ((h.drop id).push blk) W' ∧ g'.mb h.bl.length = some (r, x', z') ∧ g'.cp h.bl.length = c' ∧
      ∀ o, ¬ (match blk with | .grow _ f => x' + f * z' ≤ o | _ => True) → U g' ((h.drop id).push blk) r o := by
  let g' : G := ⟨fun i => if i = h.bl.length then some (r, x', z') else g.mb i, fun i => if i = h.bl.length then c' else g.cp i, g.rs⟩
  have hidlt := get_lt hg
  have hgle : GLe g g' := fun i y hy => by
    have : i ≠ h.bl.length := fun e => by subst e; rw [hr.dom _ (Nat.le_refl _)] at hy; cases hy
    simp [g', this, hy]
  have hnew : g'.mb h.bl.length = some (r, x', z') := by simp [g']
  have hnewc : g'.cp h.bl.length = c' := by simp [g']
  have hrlt : r < W.heap.size := by
    obtain ⟨a, b, c, h1, h2⟩ := hr.mb hg
    rw [hm] at h1; simp at h1; obtain ⟨rfl, _, _⟩ := h1; exact h2
  have hfree : ∀ b o, U g h b o → U g' ((h.drop id).push blk) b o := by
    intro b o hu
    refine ⟨hu.1, fun i bi hi hob => ?_⟩
    rw [get_drop_push] at hi
    split at hi
    · rename_i e; subst e; simp at hi; subst hi
      obtain ⟨r2, x2, z2, h1, rfl, h3⟩ := hob
      rw [hnew] at h1; simp at h1; obtain ⟨rfl, rfl, rfl⟩ := h1
      exact hown o (by cases blk <;> first | exact h3 | trivial) hu
    · rename_i hne
      split at hi
      · cases hi
      · obtain ⟨r2, x2, z2, h1, h2, h3⟩ := hob
        exact hu.2 i bi hi ⟨r2, x2, z2, by simpa [g', hne] using h1, h2, h3⟩
  have hr_own : ∀ (i : Nat) (bi : ABlk) (ri xi zi : Nat), i ≠ id → h.get i = some bi → g.mb i = some (ri, xi, zi) → ri ≠ r := fun i bi ri xi zi hne hi hmi => hr.apart i id bi old ri xi zi r x z hne hi hg hmi hm
  have hcells : ∀ b o v, U g h b o → W.cell? ⟨b, o, none⟩ = some v → W'.cell? ⟨b, o, none⟩ = some v := by
    intro b o v hu hc
    by_cases hb : b = r
    · subst hb; exact hcell o v hu hc
    · unfold World.cell? at hc ⊢
      simp only [hother b hb]
      exact hc
  have hk : Keeps W (U g h) W' (U g' ((h.drop id).push blk)) := fun b o v hu hc => ⟨hfree b o hu, hcells b o v hu hc⟩
  have hVr : ∀ o, ¬ (match blk with | .grow _ f => x' + f * z' ≤ o | _ => True) → U g' ((h.drop id).push blk) r o := by
    intro o ho
    refine ⟨hr.own id old r x z hg hm, fun i bi hi hob => ?_⟩
    rw [get_drop_push] at hi
    split at hi
    · rename_i e; subst e; simp at hi; subst hi
      obtain ⟨r2, x2, z2, h1, h2, h3⟩ := hob
      rw [hnew] at h1; simp at h1; obtain ⟨rfl, rfl, rfl⟩ := h1
      exact ho (by cases blk <;> first | exact h3 | trivial)
    · rename_i hne
      split at hi
      · cases hi
      · rename_i hne2
        obtain ⟨r2, x2, z2, h1, h2, h3⟩ := hob
        have h1' : g.mb i = some (r2, x2, z2) := by simpa [g', hne] using h1
        exact hr_own i bi r2 x2 z2 hne2 hi h1' h2.symm
  refine ⟨g', ⟨?_, ?_, ?_, ?_, fun b hb => by rw [hsize]; exact hr.res b hb, ?_, fun p hp => hk _ _ _ (hr.gl p hp).1 (hr.gl p hp).2⟩, ⟨hos, htape, hout, by omega, hgle, fun b o _ hu => hfree b o hu, hcells, ?_, rfl, fun b hb => hother b fun e => hr.own id old r x z hg hm (e ▸ hb)⟩, hnew, hnewc, hVr⟩
  · intro i hi
    have hi' : h.bl.length + 1 ≤ i := by simpa [AH.push, len_drop] using hi
    have h1 : i ≠ h.bl.length := by omega
    simp [g', h1, hr.dom i (by omega)]
  · intro i b hi
    rw [get_drop_push] at hi
    split at hi
    · rename_i e; subst e; simp at hi; subst hi
      exact hbr g' _ hgle hk hVr hnew hnewc
    · split at hi
      · cases hi
      · rename_i hne2
        refine (hr.blk i b hi).mono hk hgle fun r2 x2 z2 hm2 => hother r2 (hr_own i b r2 x2 z2 hne2 hi hm2)
  · intro i j bi bj ri xi zi rj xj zj hij hi hj hmi hmj
    rw [get_drop_push] at hi hj
    by_cases h1 : i = h.bl.length
    · have h2 : j ≠ h.bl.length := fun e => hij (h1.trans e.symm)
      simp only [h2, if_false] at hj
      rw [h1, hnew] at hmi; simp at hmi; obtain ⟨rfl, _, _⟩ := hmi
      have hmj' : g.mb j = some (rj, xj, zj) := by simpa [g', h2] using hmj
      split at hj
      · cases hj
      · rename_i hne2; exact (hr_own j bj rj xj zj hne2 hj hmj').symm
    · simp only [h1, if_false] at hi
      have hmi' : g.mb i = some (ri, xi, zi) := by simpa [g', h1] using hmi
      by_cases h2 : j = h.bl.length
      · rw [h2, hnew] at hmj; simp at hmj; obtain ⟨rfl, _, _⟩ := hmj
        split at hi
        · cases hi
        · rename_i hne2; exact hr_own i bi ri xi zi hne2 hi hmi'
      · simp only [h2, if_false] at hj
        have hmj' : g.mb j = some (rj, xj, zj) := by simpa [g', h2] using hmj
        split at hi
        · cases hi
        · split at hj
          · cases hj
          · exact hr.apart i j bi bj ri xi zi rj xj zj hij hi hj hmi' hmj'
  · intro i b hi q hq
    rw [get_drop_push] at hi
    split at hi
    · rename_i e; subst e; simp at hi; subst hi; exact .inl (hesc q hq)
    · split at hi
      · cases hi
      · exact hr.esc i b hi q hq
  · intro i b r2 x2 z2 hi hmi
    rw [get_drop_push] at hi
    split at hi
    · rename_i e; subst e
      rw [hnew] at hmi; simp at hmi; obtain ⟨rfl, _, _⟩ := hmi
      exact hr.own id old r x z hg hm
    · rename_i hne
      split at hi
      · cases hi
      · exact hr.own i b r2 x2 z2 hi (by simpa [g', hne] using hmi)
  · intro b hb hu
    by_cases hbr' : b = r
    · exfalso
      subst hbr'
      refine (hu (match old with | .grow _ f => x + f * z | _ => 0)).2 id old hg ⟨b, x, z, hm, rfl, ?_⟩
      cases old <;> simp
    · exact hother b hbr'

/-! ### the run of append -/
structure AppT (P : Program) (sT xT e : TypeId) (z : Nat) (i : TypeInfo) (zv : Value) : Prop where
  s : P.underlying sT = some (.slice e)
  x : ∃ d, P.underlying xT = some d ∧ ∀ k, d ≠ .int k
  inf : P.info? e = some i
  sz : i.size = z
  zero : i.zero = some zv
  zc : zv.cells.size = z
  bytes : i.bytes ≤ 8388608

def appOK (P : Program) (sT xT : TypeId) (z : Nat) : Bool :=
  match P.underlying sT with
  | some (.slice e) =>
    (match P.underlying xT with | some (.int _) => false | some _ => true | none => false) &&
    match P.info? e with
    | some i => (i.size == z) && decide (i.bytes ≤ 8388608) && (match i.zero with | some v => v.cells.size == z | none => false)
    | none => false
  | _ => false

theorem of_appOK {sT xT : TypeId} {z : Nat} (hh : appOK P sT xT z = true) : ∃ e i zv, AppT P sT xT e z i zv := by
  unfold appOK at hh
  split at hh
  · rename_i e hs
    simp only [Bool.and_eq_true] at hh
    obtain ⟨h1, h2⟩ := hh
    split at h2
    · rename_i i hi
      simp only [Bool.and_eq_true, beq_iff_eq, decide_eq_true_eq] at h2
      obtain ⟨⟨h3, h4⟩, h5⟩ := h2
      split at h5
      · rename_i zv hz
        refine ⟨e, i, zv, hs, ?_, hi, h3, hz, by simpa using h5, h4⟩
        split at h1
        · cases h1
        · rename_i d hn hx
          exact ⟨d, hx, fun k hk => hn k hk⟩
        · cases h1
      · cases h5
    · cases h2
  · cases hh

theorem zeros_false {d : TypeDesc} (hn : ∀ k, d ≠ .int k) : (match d with | .int _ => true | _ => false) = false := by
  cases d <;> first | rfl | exact absurd rfl (hn _)

theorem run_append_room {sT xT ty e : TypeId} {z : Nat} {i : TypeInfo} {zv : Value} (t : AppT P sT xT e z i zv) {base : Option Addr} {sLen sCap n : Nat} {x : Value} {news : Array Value}
    (hlen : (Builtin.lenOf x).run P W = .ok n W) (hroom : sLen + n ≤ sCap) (hnews : (Builtin.firstCells z n x).run P W = .ok news W) {W' : World}
    (hst : ∀ a, base = some a → (storeCells (a.add (sLen * z)) news.toList).run P W = .ok () W') (hnil : base = none → W' = W) :
    (Builtin.append_ #[sT, xT] ty #[.slice base sLen sCap, x]).run P W = .ok (.slice base (sLen + n) sCap) W' := by
  obtain ⟨d, hx, hn⟩ := t.x
  have hz := zeros_false hn
  unfold Builtin.append_
  simp only [List.getElem?_toArray, List.getElem?_cons_zero, List.getElem?_cons_succ]
  rw [Sem.run_bind, run_underlying t.s]
  simp only [Result.andThen_ok]
  have hsz : (sizeOf e).run P W = .ok z W := by simp [sizeOf, typeInfo, t.inf, t.sz]
  rw [Sem.run_bind, hsz]
  simp only [Result.andThen_ok]
  rw [Sem.run_bind, run_underlying hx]
  simp only [Result.andThen_ok]
  rw [Sem.run_bind]
  simp only [Sem.run_pure, Result.andThen_ok, hz, Bool.false_eq_true, if_false]
  rw [Sem.run_bind, hlen]
  simp only [Result.andThen_ok, hroom, if_true, Bool.not_false]
  rw [Sem.run_bind, hnews]
  simp only [Result.andThen_ok]
  cases base with
  | none => obtain rfl := hnil rfl; simp
  | some a => simp only [Sem.run_bind, hst a rfl, Result.andThen_ok, Sem.run_pure]

theorem cut_ge (need old : Nat) (e : TypeId) (t : Nat) : need ≤ (Question.appendCap need old e).cut t := Nat.le_add_right _ _

theorem run_append_new {sT xT ty e : TypeId} {z : Nat} {i : TypeInfo} {zv : Value} (t : AppT P sT xT e z i zv) {base : Option Addr} {sLen sCap n : Nat} {x : Value} {olds news : Array Value}
    (hlen : (Builtin.lenOf x).run P W = .ok n W) (hroom : sCap < sLen + n) (hmax : sLen + n ≤ maxLenA) (holds : (Builtin.firstCells z sLen (.slice base sLen sCap)).run P W.drew = .ok olds W.drew)
    (hnews : (Builtin.firstCells z n x).run P W.drew = .ok news W.drew) (ho : olds.size = sLen * z) (hnw : news.size = n * z) :
    ∃ (cap : Nat) (rest : Array Value), sLen + n ≤ cap ∧ (olds ++ news ++ rest).size = cap * z ∧
      (Builtin.append_ #[sT, xT] ty #[.slice base sLen sCap, x]).run P W = .ok (.slice (some ⟨W.heap.size, 0, none⟩) (sLen + n) cap) (W.drew.alloc (.cells (olds ++ news ++ rest) e)) := by
  obtain ⟨d, hx, hn⟩ := t.x
  have hz := zeros_false hn
  unfold maxLenA at hmax
  have hfit : Builtin.nextslicecap (sLen + n) sCap * i.bytes ≤ 281474976710656 := by
    have h1 := nextslicecap_le hroom
    have h2 : Builtin.nextslicecap (sLen + n) sCap * i.bytes ≤ 33554432 * 8388608 := Nat.mul_le_mul (by omega) t.bytes
    omega
  refine ⟨(Question.appendCap (sLen + n) sCap e).cut (W.tape W.drawn (.appendCap (sLen + n) sCap e)),
    Builtin.zeroCells zv.cells ((Question.appendCap (sLen + n) sCap e).cut (W.tape W.drawn (.appendCap (sLen + n) sCap e)) - (sLen + n)), cut_ge _ _ _ _, ?_, ?_⟩
  · have hc : sLen + n ≤ (Question.appendCap (sLen + n) sCap e).cut (W.tape W.drawn (.appendCap (sLen + n) sCap e)) := cut_ge _ _ _ _
    generalize (Question.appendCap (sLen + n) sCap e).cut (W.tape W.drawn (.appendCap (sLen + n) sCap e)) = cap at hc
    simp only [Array.size_append, ho, hnw, Builtin.zeroCells, Array.size_map, Array.size_range, t.zc]
    rw [← Nat.add_mul, ← Nat.add_mul]
    congr 1
    omega
  · unfold Builtin.append_
    simp only [List.getElem?_toArray, List.getElem?_cons_zero, List.getElem?_cons_succ]
    rw [Sem.run_bind, run_underlying t.s]
    simp only [Result.andThen_ok]
    have hsz : ∀ W, (sizeOf e).run P W = .ok z W := fun W => by simp [sizeOf, typeInfo, t.inf, t.sz]
    rw [Sem.run_bind, hsz]
    simp only [Result.andThen_ok]
    rw [Sem.run_bind, run_underlying hx]
    simp only [Result.andThen_ok]
    rw [Sem.run_bind]
    simp only [Sem.run_pure, Result.andThen_ok, hz, Bool.false_eq_true, if_false]
    rw [Sem.run_bind, hlen]
    have hnr : ¬ (sLen + n ≤ sCap) := by omega
    have h63 : ¬ (((sLen + n : Nat) : Int) > IntKind.i64.max ∧ (false = true ∨ i.bytes = 0)) := by rw [IntKind.max_i64]; omega
    have h48 : ¬ (Builtin.nextslicecap (sLen + n) sCap * i.bytes > 2 ^ 48) := by omega
    have hti : ∀ W, (typeInfo e).run P W = .ok i W := fun W => by simp [typeInfo, t.inf]
    have hzz : ∀ W, (zeroValue e).run P W = .ok zv W := fun W => by simp [zeroValue, typeInfo, t.inf, t.zero]
    have h63' : ¬ (((sLen + n : Nat) : Int) > IntKind.i64.max) := by rw [IntKind.max_i64]; omega
    simp only [Result.andThen_ok, hnr, if_false, Bool.not_false, if_true, Sem.run_bind, hti, run_choose, Question.forced, Bool.false_eq_true, false_or]
    simp only [h63', false_and, if_false, Sem.run_bind, hti, Result.andThen_ok, h48, run_choose, Question.forced, Bool.false_eq_true, run_askRoom]
    have holds' : (Builtin.firstCells z sLen (.slice base sLen sCap)).run P { W with drawn := W.drawn + 1 } = .ok olds W.drew := holds
    have hnews' : (Builtin.firstCells z n x).run P W.drew = .ok news W.drew := hnews
    simp only [holds', hnews', Result.andThen_ok, hzz, newRow, Sem.run_bind, run_newObj, Sem.run_pure]
    rfl

end
end Go.Proofs.YtfahpmlckobpmaaGreatDoor.Pi
/-
  append's two forms.
-/
namespace Go.Proofs.YtfahpmlckobpmaaGreatDoor.Pi
open Go

section
variable {P : Program} {g : G} {h : AH} {W : World}

theorem drop_sound (hr : HRel g h W) (id : Nat) : HRel g (h.drop id) W ∧ Ext g h W g (h.drop id) W := by
  have hU : ∀ b o, U g h b o → U g (h.drop id) b o := fun b o hu => ⟨hu.1, fun i bi hi => by
    rw [get_drop] at hi
    split at hi
    · cases hi
    · exact hu.2 i bi hi⟩
  have hk : Keeps W (U g h) W (U g (h.drop id)) := fun b o v hu hc => ⟨hU b o hu, hc⟩
  refine ⟨⟨fun i hi => hr.dom i (by simpa [len_drop] using hi), fun i b hi => ?_, fun i j bi bj ri xi zi rj xj zj hij hi hj => ?_, fun i b hi => ?_, hr.res, fun i b r x z hi => ?_, fun p hp => hk _ _ _ (hr.gl p hp).1 (hr.gl p hp).2⟩, ⟨rfl, rfl, rfl, Nat.le_refl _, GLe.refl g, fun b o _ hu => hU b o hu, fun _ _ _ _ hc => hc, fun _ _ _ => rfl, rfl, fun _ _ => rfl⟩⟩
  · rw [get_drop] at hi
    split at hi
    · cases hi
    · exact (hr.blk i b hi).mono hk (GLe.refl g) fun _ _ _ _ => rfl
  · rw [get_drop] at hi hj
    split at hi
    · cases hi
    · split at hj
      · cases hj
      · exact hr.apart i j bi bj ri xi zi rj xj zj hij hi hj
  · rw [get_drop] at hi
    split at hi
    · cases hi
    · exact hr.esc i b hi
  · rw [get_drop] at hi
    split at hi
    · cases hi
    · exact hr.own i b r x z hi

theorem divmod {z k n : Nat} (hk : k < n * z) : k / z < n ∧ k % z < z ∧ k / z * z + k % z = k := by
  have hz : 0 < z := Nat.pos_of_ne_zero fun e => by subst e; simp at hk
  exact ⟨(Nat.div_lt_iff_lt_mul hz).2 hk, Nat.mod_lt _ hz, by rw [Nat.mul_comm]; exact Nat.div_add_mod k z⟩

/-- a row of cells in memory, read -/
theorem read_row {b o z : Nat} {e : List (List AV)} (hz : ∀ x ∈ e, x.length = z)
    (hv : ∀ (i : Nat) (c : List AV) (j : Nat) (av : AV), e[i]? = some c → c[j]? = some av → av.isCell = true ∧ ∃ x, W.cell? ⟨b, o + i * z + j, none⟩ = some x ∧ VRel g W (U g h) av x) :
    ∃ c : Array Value, LayE g W (U g h) z e c ∧ ∀ (W' : World), More W W' → (loadCells ⟨b, o, none⟩ (e.length * z)).run P W' = .ok c W' := by
  have hx : ∀ k, k < e.length * z → ∃ x, W.cell? ⟨b, o + k, none⟩ = some x := fun k hk => by
    obtain ⟨h1, h2, h3⟩ := divmod hk
    have hl := hz e[k / z] (by simp)
    obtain ⟨_, x, hc, _⟩ := hv (k / z) e[k / z] (k % z) ((e[k / z])[k % z]'(by omega)) (by simp [h1]) (by simp [hl, h2])
    exact ⟨x, by rw [← hc]; congr 2; omega⟩
  refine ⟨((List.range (e.length * z)).map fun k => (W.cell? ⟨b, o + k, none⟩).getD undef).toArray, ⟨fun x hx' => ⟨hz x hx', fun av hav => ?_⟩, by simp, fun i c j av hi hj => ?_⟩, fun W' m => ?_⟩
  · obtain ⟨i, hi⟩ := List.mem_iff_getElem?.1 hx'
    obtain ⟨j, hj⟩ := List.mem_iff_getElem?.1 hav
    exact (hv i x j av hi hj).1
  · obtain ⟨_, x, hc, hr⟩ := hv i c j av hi hj
    have hi' : i < e.length := (List.getElem?_eq_some_iff.1 hi).1
    have hj' : j < z := by rw [← hz c (List.mem_of_getElem? hi)]; exact (List.getElem?_eq_some_iff.1 hj).1
    have hmul : (i + 1) * z ≤ e.length * z := Nat.mul_le_mul_right _ hi'
    rw [Nat.add_mul] at hmul
    refine ⟨x, ?_, hr⟩
    have hlt : i * z + j < e.length * z := by omega
    rw [Nat.add_assoc] at hc
    simp [hlt, hc]
  · refine run_loadCells (P := P) W' ⟨b, o, none⟩ (e.length * z) (fun k => (W.cell? ⟨b, o + k, none⟩).getD undef) fun k hk => ?_
    obtain ⟨x, hc⟩ := hx k hk
    rw [add_none, m.cell hc, hc]; rfl

theorem elems_read (hr : HRel g h W) {y : AV} {yv : Value} (hy : VRel g W (U g h) y yv) {n : List (List AV)} (hn : elemsOf h y = some n) {z : Nat} (hz : ∀ x ∈ n, x.length = z) :
    (∀ W' : World, (Builtin.lenOf yv).run P W' = .ok n.length W') ∧ ∃ c : Array Value, LayE g W (U g h) z n c ∧ ∀ (W' : World), More W W' → (Builtin.firstCells z n.length yv).run P W' = .ok c W' := by
  cases y with
  | vs e tk =>
    simp [elemsOf] at hn; subst hn
    rcases inv_pvs (inv_vs hy) with ⟨rfl, a, cap, rfl⟩ | ⟨b, o, z', cap, rfl, hc, hz', hv⟩
    · refine ⟨fun W' => rfl, #[], ⟨fun x hx => (by cases hx), by simp, fun i c j av hi => by simp at hi⟩, fun W' m => ?_⟩
      cases a with
      | none => rfl
      | some a => simp [Builtin.firstCells, loadCells, loadCellsFrom]
    · refine ⟨fun W' => rfl, ?_⟩
      by_cases he : e = []
      · subst he
        exact ⟨#[], ⟨fun x hx => (by cases hx), by simp, fun i c j av hi => by simp at hi⟩, fun W' m => by simp [Builtin.firstCells, loadCells, loadCellsFrom]⟩
      · obtain ⟨c0, hc0⟩ := List.exists_mem_of_ne_nil e he
        have hzz : z' = z := (hz' c0 hc0).symm.trans (hz c0 hc0)
        subst hzz
        obtain ⟨c, h1, h2⟩ := read_row (P := P) (g := g) (h := h) (W := W) (b := b) (o := o) hz fun i c j av hi hj => by
          obtain ⟨x, _, h4, h5⟩ := hv i c j av hi hj
          exact ⟨h5.cell, x, h4, .pure _ _ h5⟩
        exact ⟨c, h1, fun W' m => h2 W' m⟩
  | ms id s l =>
    simp only [elemsOf] at hn
    split at hn
    · rename_i z' rs hg
      split at hn
      · rename_i hle
        simp at hn; subst hn
        obtain ⟨r, x, zz, cap, a, hm, hc, rfl, ha⟩ := inv_ms hy
        obtain ⟨r2, x2, cc, t, hm2, hh, _, hrel⟩ := hr.blk id _ hg
        rw [hm] at hm2; simp at hm2; obtain ⟨rfl, rfl, rfl⟩ := hm2
        have hlen : ((rs.drop s).take l).length = l := by simp; omega
        refine ⟨fun W' => by rw [hlen]; rfl, ?_⟩
        rcases ha with ⟨rfl, _⟩ | ⟨rfl, rfl⟩
        · by_cases he : (rs.drop s).take l = []
          · rw [he]
            exact ⟨#[], ⟨fun x hx => (by cases hx), by simp, fun i c j av hi => by simp at hi⟩, fun W' m => by simp [Builtin.firstCells, loadCells, loadCellsFrom]⟩
          · have hrow : ∀ i c, ((rs.drop s).take l)[i]? = some c → rs[s + i]? = some c := fun i c hi => by
              have hi' : i < l := by have := (List.getElem?_eq_some_iff.1 hi).1; omega
              rw [List.getElem?_take_of_lt hi', List.getElem?_drop] at hi
              exact hi
            obtain ⟨c0, hc0⟩ := List.exists_mem_of_ne_nil _ he
            obtain ⟨k0, hk0⟩ := List.mem_iff_getElem?.1 hc0
            have hzz : zz = z := ((hrel _ _ (hrow k0 c0 hk0)).1.1).symm.trans (hz c0 hc0)
            subst hzz
            obtain ⟨c, h1, h2⟩ := read_row (P := P) (g := g) (h := h) (W := W) (b := r) (o := x + s * zz) hz fun i c j av hi hj => by
              obtain ⟨⟨_, h3⟩, h4⟩ := hrel _ _ (hrow i c hi)
              obtain ⟨v, h5, h6⟩ := h4 j av hj
              refine ⟨h3 av (List.mem_of_getElem? hj), v, ?_, h6⟩
              have e1 : x + s * zz + i * zz + j = x + (s + i) * zz + j := by rw [Nat.add_mul]; omega
              rw [e1]; simp [World.cell?, hh, h5]
            exact ⟨c, h1, fun W' m => h2 W' m⟩
        · have : (rs.drop s).take 0 = [] := by simp
          rw [this]
          refine ⟨#[], ⟨fun x hx => (by cases hx), by simp, fun i c j av hi => by simp at hi⟩, fun W' m => ?_⟩
          cases a with
          | none => rfl
          | some a => simp [Builtin.firstCells, loadCells, loadCellsFrom]
      · cases hn
    · cases hn
  | str s =>
    simp [elemsOf] at hn; subst hn
    obtain ⟨b, rfl, rfl⟩ := inv_str hy
    have hlen : ((bytesOf b).map fun (x : Nat) => [AV.int .u8 (x : Int)]).length = b.size := by simp [len_bytesOf]
    refine ⟨fun W' => by rw [hlen]; rfl, ?_⟩
    have hcells : ∀ W', (Builtin.firstCells z ((bytesOf b).map fun (x : Nat) => [AV.int .u8 (x : Int)]).length (.string b)).run P W' = .ok (b.data.map fun x => .int .u8 x.toNat) W' := fun W' => by
      rw [hlen]
      simp only [Builtin.firstCells, Sem.run_pure]
      have : (b.extract 0 b.size).data = b.data := by
        rw [ByteArray.data_extract]
        exact Array.extract_size ..
      rw [this]
    refine ⟨b.data.map fun x => .int .u8 x.toNat, ⟨fun x hx => ?_, ?_, fun i c j av hi hj => ?_⟩, fun W' _ => hcells W'⟩
    · refine ⟨hz x hx, fun av hav => ?_⟩
      obtain ⟨y, _, rfl⟩ := List.mem_map.1 hx
      simp at hav; subst hav; rfl
    · by_cases he : bytesOf b = []
      · have h0 : b.size = 0 := by rw [← len_bytesOf, he]; rfl
        have h1 : b.data.size = 0 := h0
        simp [he, h1]
      · obtain ⟨y, hy'⟩ := List.exists_mem_of_ne_nil _ he
        have : z = 1 := (hz [.int .u8 y] (List.mem_map.2 ⟨y, hy', rfl⟩)).symm
        subst this
        simp only [Array.size_map, Nat.mul_one, hlen]
        rfl
    · rw [List.getElem?_map] at hi
      cases hb : (bytesOf b)[i]? with
      | none => simp [hb] at hi
      | some y =>
        simp [hb] at hi; subst hi
        have hz1 : z = 1 := (hz [.int .u8 y] (List.mem_map.2 ⟨y, List.mem_of_getElem? hb, rfl⟩)).symm
        subst hz1
        have hj0 : j = 0 := by
          have := (List.getElem?_eq_some_iff.1 hj).1
          simp at this; exact this
        subst hj0
        simp at hj; subst hj
        simp only [bytesOf, List.getElem?_map] at hb
        cases hd : b.data.toList[i]? with
        | none => simp [hd] at hb
        | some u =>
          simp [hd] at hb; subst hb
          refine ⟨.int .u8 u.toNat, ?_, .pure _ _ (.int _ _)⟩
          have : b.data[i]? = some u := by rw [← Array.getElem?_toList]; exact hd
          simp [this]
  | _ => simp [elemsOf] at hn

/-- where two rows of cells stand one behind the other -/
theorem lay_append {z : Nat} {e n : List (List AV)} {c d rest : Array Value} (he : LayE g W (U g h) z e c) (hn : LayE g W (U g h) z n d) :
    ∀ (i : Nat) (x : List AV) (j : Nat) (av : AV), (e ++ n)[i]? = some x → x[j]? = some av → ∃ y, (c ++ d ++ rest)[i * z + j]? = some y ∧ VRel g W (U g h) av y := by
  intro i x j av hi hj
  rw [List.getElem?_append] at hi
  split at hi
  · rename_i hlt
    obtain ⟨y, h1, h2⟩ := he.2.2 i x j av hi hj
    have hl := (Array.getElem?_eq_some_iff.1 h1).1
    exact ⟨y, by rw [Array.append_assoc, Array.getElem?_append_left hl]; exact h1, h2⟩
  · rename_i hge
    obtain ⟨y, h1, h2⟩ := hn.2.2 _ x j av hi hj
    have hl := (Array.getElem?_eq_some_iff.1 h1).1
    have e1 : i * z + j = c.size + ((i - e.length) * z + j) := by
      rw [he.2.1, ← Nat.add_assoc, ← Nat.add_mul]
      congr 2; omega
    refine ⟨y, ?_, h2⟩
    rw [e1, Array.append_assoc, Array.getElem?_append_right (by omega), Nat.add_sub_cancel_left, Array.getElem?_append_left hl]
    exact h1

end
end Go.Proofs.YtfahpmlckobpmaaGreatDoor.Pi
/-
  append and copy, whole.
-/
namespace Go.Proofs.YtfahpmlckobpmaaGreatDoor.Pi
open Go

section
variable {P : Program} {g : G} {h : AH} {W : World}

theorem get_stripL {n : List (List AV)} {i : Nat} {r : List AV} (hi : (n.map stripL)[i]? = some r) : ∃ q, n[i]? = some q ∧ r = stripL q := by
  rw [List.getElem?_map] at hi
  cases hn : n[i]? with
  | none => simp [hn] at hi
  | some q => simp [hn] at hi; exact ⟨q, rfl, hi.symm⟩

theorem LayE.strip {V : Nat → Nat → Prop} {z : Nat} {n : List (List AV)} {c : Array Value} (hl : LayE g W V z n c) : LayE g W V z (n.map stripL) c := by
  refine ⟨fun x hx => ?_, by simpa using hl.2.1, fun i x j av hi hj => ?_⟩
  · obtain ⟨q, hq, rfl⟩ := List.mem_map.1 hx
    refine ⟨by simpa [stripL] using (hl.1 q hq).1, fun av hav => ?_⟩
    obtain ⟨b, hb, rfl⟩ := List.mem_map.1 hav
    exact strip_cell ((hl.1 q hq).2 b hb)
  · obtain ⟨q, hq, rfl⟩ := get_stripL hi
    simp only [stripL, List.getElem?_map] at hj
    cases hb : q[j]? with
    | none => simp [hb] at hj
    | some b =>
      simp [hb] at hj; subst hj
      obtain ⟨y, h1, h2⟩ := hl.2.2 i q j b hq hb
      exact ⟨y, h1, h2.strip⟩

theorem all_len {n : List (List AV)} {z : Nat} (h : n.all (fun r => r.length == z) = true) : ∀ x ∈ n, x.length = z := fun x hx => by simpa using List.all_eq_true.1 h x hx

/-- U of a fresh block that grows, below its front -/
theorem U_fresh_grow (hr : HRel g h W) {g' : G} {z f x : Nat} {b : Nat} (hgle : GLe g g') (hrs : g'.rs = g.rs) (hb : W.heap.size ≤ b) (hm : g'.mb h.bl.length = some (b, x, z)) (o : Nat) (ho : o < x + f * z) : U g' (h.push (.grow z f)) b o := by
  refine ⟨fun hq => absurd (hr.res b (by rw [← hrs]; exact hq)) (by omega), ?_⟩
  intro i bi hi ⟨r, x', z', h1, h2, h3⟩
  rw [get_push] at hi
  split at hi
  · rename_i e; subst e; simp at hi; subst hi
    rw [hm] at h1; simp at h1; obtain ⟨rfl, rfl, rfl⟩ := h1
    simp only at h3; omega
  · obtain ⟨a, p, q, h4, h5⟩ := hr.mb hi
    rw [(hgle _ _ h4).1] at h1; simp at h1; obtain ⟨rfl, _, _⟩ := h1
    omega

/-- a new array for both: told by value, with the right to grow -/
theorem append_fresh (hr : HRel g h W) {sT xT ty el : TypeId} {z : Nat} {inf : TypeInfo} {zv : Value} (t : AppT P sT xT el z inf zv) {e n : List (List AV)} {base : Option Addr} {cap : Nat} {yv : Value}
    {c d : Array Value} (hce : LayE g W (U g h) z e c) (hcn : LayE g W (U g h) z n d) (hpe : ∀ x ∈ e, ∀ av ∈ x, av.pure = true) (hpn : ∀ x ∈ n, ∀ av ∈ x, av.pure = true)
    (hroom : cap < e.length + n.length) (hmax : e.length + n.length ≤ maxLenA) (hlen : (Builtin.lenOf yv).run P W = .ok n.length W)
    (hold : (Builtin.firstCells z e.length (.slice base e.length cap)).run P W.drew = .ok c W.drew) (hnew : (Builtin.firstCells z n.length yv).run P W.drew = .ok d W.drew) :
    VRes P (Builtin.append_ #[sT, xT] ty #[.slice base e.length cap, yv]) g h W (.vs (e ++ n) (.grow h.next 0)) (h.push (.grow z (e.length + n.length))) := by
  obtain ⟨cap', rest, h1, h2, h3⟩ := run_append_new (ty := ty) t hlen hroom hmax hold hnew hce.2.1 hcn.2.1
  have m : More W (W.drew.alloc (.cells (c ++ d ++ rest) el)) := (More.refl W).drew.alloc _
  have hblk : (W.drew.alloc (.cells (c ++ d ++ rest) el)).heap[W.heap.size]? = some (.cells (c ++ d ++ rest) el (0, 0)) := by
    show (W.heap.push _)[W.heap.size]? = _; simp
  obtain ⟨g', hr', he, hm, hc⟩ := push_sound hr m (.grow z (e.length + n.length)) W.heap.size 0 z cap' (Nat.le_refl _)
    (fun g' V' hg hk hm hc => ⟨W.heap.size, 0, c ++ d ++ rest, el, hm, hblk, by rw [hc]; exact h1, by rw [hc]; omega⟩) (by simp [blkRefs])
  refine ⟨_, _, g', h3, hr', he, ?_⟩
  have hzall : ∀ x ∈ e ++ n, x.length = z := fun x hx => by
    rcases List.mem_append.1 hx with hx | hx
    · exact (hce.1 x hx).1
    · exact (hcn.1 x hx).1
  have hp := mk_pvs (W := W.drew.alloc (.cells (c ++ d ++ rest) el)) (V := U g' (h.push (.grow z (e.length + n.length)))) (e := e ++ n) (b := W.heap.size) (off := 0 + 0 * z) (z := z) (cap := cap') (by simp; omega) hzall
    (fun i x j av hi hj => by
      obtain ⟨y, h4, h5⟩ := lay_append (rest := rest) hce hcn i x j av hi hj
      have hil : i < e.length + n.length := by have := (List.getElem?_eq_some_iff.1 hi).1; simpa using this
      have hjz : j < z := by rw [← hzall x (List.mem_of_getElem? hi)]; exact (List.getElem?_eq_some_iff.1 hj).1
      have hmul : (i + 1) * z ≤ (e.length + n.length) * z := Nat.mul_le_mul_right _ hil
      rw [Nat.add_mul] at hmul
      have hpure : av.pure = true := by
        rcases List.mem_append.1 (List.mem_of_getElem? hi) with hx | hx
        · exact hpe x hx av (List.mem_of_getElem? hj)
        · exact hpn x hx av (List.mem_of_getElem? hj)
      refine ⟨y, U_fresh_grow hr he.gle he.rs (Nat.le_refl _) hm _ (by omega), ?_, ((h5.ext he).toP hpure)⟩
      simp only [World.cell?, hblk]
      simpa using h4)
  have key := VRel.vsg (g := g') (e ++ n) h.bl.length 0 W.heap.size 0 z (e ++ n).length cap' hp hzall hm (by rw [hc]; rfl)
  simpa [AH.next] using key

theorem pure_byval {V : Nat → Nat → Prop} {e : List (List AV)} {v : Value} (h : PRel W V (.vs e .shared) v) : ∀ x ∈ e, ∀ av ∈ x, av.pure = true := by
  have pp : ∀ {a : AV} {v : Value}, PRel W V a v → a.pure = true := by
    intro a v h
    induction h with
    | ref b off cells val h1 h2 ih =>
      simp only [AV.pure]
      clear h1 h2
      have : ∀ (l : List AV), (∀ av ∈ l, av.pure = true) → pureL l = true := by
        intro l
        induction l with
        | nil => intro _; rfl
        | cons a l ih => intro hl; simp [pureL, hl a (by simp), ih fun b hb => hl b (by simp [hb])]
      exact this cells fun av hav => let ⟨i, hi⟩ := List.mem_iff_getElem?.1 hav; ih i av hi
    | fn f a b x y ha hb _ _ ih1 ih2 =>
      have : ∀ (l : List AV), (∀ av ∈ l, av.pure = true) → pureL l = true := by
        intro l
        induction l with
        | nil => intro _; rfl
        | cons a l ih => intro hl; simp [pureL, hl a (by simp), ih fun b hb => hl b (by simp [hb])]
      simp only [AV.pure, Bool.and_eq_true]
      refine ⟨this a fun av hav => ?_, this b fun av hav => ?_⟩
      · obtain ⟨i, hi⟩ := List.mem_iff_getElem?.1 hav
        have hlt : i < x.size := by rw [← ha]; exact (List.getElem?_eq_some_iff.1 hi).1
        exact ih1 i av x[i] hi (by simp [hlt])
      · obtain ⟨i, hi⟩ := List.mem_iff_getElem?.1 hav
        have hlt : i < y.size := by rw [← hb]; exact (List.getElem?_eq_some_iff.1 hi).1
        exact ih2 i av y[i] hi (by simp [hlt])
    | iface t av v _ ih => simpa [AV.pure] using ih
    | _ => rfl
  intro x hx av hav
  rcases inv_pvs h with ⟨rfl, _⟩ | ⟨b, o, z, cap, _, _, _, hv⟩
  · cases hx
  · obtain ⟨i, hi⟩ := List.mem_iff_getElem?.1 hx
    obtain ⟨j, hj⟩ := List.mem_iff_getElem?.1 hav
    obtain ⟨y, _, _, hp⟩ := hv i x j av hi hj
    exact pp hp

theorem put_same {b : Nat} {o : Obj} (hh : W.heap[b]? = some o) : putBlock W b o = W := by
  unfold putBlock
  have : W.heap.setIfInBounds b o = W.heap := by
    apply Array.ext_getElem?
    intro i
    rw [Array.getElem?_setIfInBounds]
    split
    · rename_i e; subst e
      have hlt : b < W.heap.size := Nat.lt_of_not_le fun hle => by simp [Array.getElem?_eq_none hle] at hh
      simp [hlt, ← hh]
    · rfl
  rw [this]

theorem setCells_same {c : Array Value} {o : Nat} : setCells c o [] = c := rfl

theorem append_sound (hr : HRel g h W) {sT xT ty : TypeId} {z : Nat} (ht : appOK P sT xT z = true) {x y : AV} {xv yv : Value} (hx : VRel g W (U g h) x xv) (hy : VRel g W (U g h) y yv) {v' : AV} {h' : AH}
    (ha : appendA z h x y = some (v', h')) : VRes P (Builtin.append_ #[sT, xT] ty #[xv, yv]) g h W v' h' := by
  obtain ⟨el, inf, zv, t⟩ := of_appOK ht
  unfold appendA at ha
  cases x with
  | vs e tk =>
    simp only at ha
    obtain ⟨n, h1, h2⟩ := bind_some_iff.1 ha
    obtain ⟨base, cap, rfl, hcap⟩ := vs_slice hx
    split at h2
    · rename_i hemp
      have hn0 : n = [] := by simpa using hemp
      subst hn0
      simp at h2; obtain ⟨rfl, rfl⟩ := h2
      obtain ⟨hlen, c, _, hc⟩ := elems_read (P := P) hr hy h1 (z := z) (fun x hx => by cases hx)
      have hc0 : c = #[] := by
        have := hc W (More.refl W)
        cases yv with
        | slice a m k => cases a <;> simp [Builtin.firstCells, loadCells, loadCellsFrom] at this <;> exact this
        | string s => simp [Builtin.firstCells] at this; exact this
        | _ => simp [Builtin.firstCells] at this
      subst hc0
      refine VRes.same hr (x := .slice base e.length cap) ?_ hx
      have := run_append_room (ty := ty) t (W := W) (base := base) (sLen := e.length) (sCap := cap) (n := 0) (hlen W) (by simpa using hcap) (by simpa using hc W (More.refl W)) (W' := W) (fun a _ => by simp [storeCells]) (fun _ => rfl)
      simpa using this
    · rename_i hne
      split at h2
      · rename_i hcond
        obtain ⟨hmax, hall, halle⟩ := hcond
        have hzn : ∀ x ∈ n, x.length = z := fun x hx => by
          have := List.all_eq_true.1 hall (stripL x) (List.mem_map.2 ⟨x, hx, rfl⟩)
          simp [stripL] at this; exact this.2
        have hpn : ∀ x ∈ n.map stripL, ∀ av ∈ x, av.pure = true := fun x hx av hav => by
          have := List.all_eq_true.1 hall x hx
          simp only [Bool.and_eq_true] at this
          obtain ⟨i, hi⟩ := List.mem_iff_getElem?.1 hav
          exact pureL_get this.1 hi
        have hze := all_len halle
        have hnl : (n.map stripL).length = n.length := by simp
        have hnpos : 0 < n.length := by
          rcases Nat.eq_zero_or_pos n.length with h0 | h0
          · exfalso; apply hne; have : n = [] := List.length_eq_zero_iff.1 h0; simp [this]
          · exact h0
        obtain ⟨hlen, d, hd, hrd⟩ := elems_read (P := P) hr hy h1 hzn
        obtain ⟨_, c, hc, hrc⟩ := elems_read (P := P) hr hx (n := e) rfl hze
        have hpe := pure_byval (inv_vs hx)
        have hd' := hd.strip
        have md : More W W.drew := (More.refl W).drew
        cases tk with
        | shared => cases h2
        | exact =>
          simp at h2; obtain ⟨rfl, rfl⟩ := h2
          have hcl : cap = e.length := by
            cases hx with
            | vsx _ _ _ _ => rfl
            | pure _ _ hp => cases hp
          have := append_fresh (ty := ty) hr t (base := base) (cap := cap) hc hd' hpe hpn (by rw [hnl]; omega) hmax (by rw [hnl]; exact hlen W) (hrc _ md) (by rw [hnl]; exact hrd _ md)
          simpa [hnl] using this
        | grow gi s =>
          simp only at h2
          split at h2
          · rename_i zz f hg
            split at h2
            · rename_i hzf
              obtain ⟨rfl, hf⟩ := hzf
              simp at h2; obtain ⟨rfl, rfl⟩ := h2
              obtain ⟨r, x0, cells, ct, hm, hh, hfc, hsz⟩ := hr.blk gi _ hg
              by_cases hroom : e.length + n.length ≤ cap
              · -- there is room
                cases hx with
                | pure _ _ hp => cases hp
                | vsg _ _ _ r' x' z' _ _ hp hz' hg' hcc =>
                  rw [hm] at hg'; simp at hg'; obtain ⟨rfl, rfl, rfl⟩ := hg'
                  have hmul : (s + e.length + n.length) * zz ≤ g.cp gi * zz := Nat.mul_le_mul_right _ (by omega)
                  rw [Nat.add_mul, Nat.add_mul] at hmul
                  have hdsz : d.size = n.length * zz := hd.2.1
                  have hone : ∀ v ∈ d.toList, v.oneCell' = true := by
                    intro v hv
                    obtain ⟨k, hk⟩ := List.mem_iff_getElem?.1 hv
                    have hk' : k < n.length * zz := by have := (List.getElem?_eq_some_iff.1 hk).1; simp at this; omega
                    obtain ⟨h3, h4, h5⟩ := divmod hk'
                    have hl := hzn n[k / zz] (by simp)
                    obtain ⟨y', h6, h7⟩ := hd.2.2 (k / zz) n[k / zz] (k % zz) ((n[k / zz])[k % zz]'(by omega)) (by simp [h3]) (by simp [hl, h4])
                    rw [h5] at h6
                    have : v = y' := by
                      have h8 : d[k]? = some v := by simpa using hk
                      rw [h8] at h6; simpa using h6
                    subst this
                    exact oneCell h7 ((hd.1 n[k / zz] (by simp)).2 ((n[k / zz])[k % zz]'(by omega)) (by simp))
                  have hstore := run_storeCells (P := P) (b := r) (t := ct) d.toList (x0 + s * zz + e.length * zz) 0 W cells hh hone (by simp; omega)
                  have hW' : (if d.toList = [] then W else putBlock W r (.cells (setCells cells (x0 + s * zz + e.length * zz + 0) d.toList) ct (0, 0))) = putBlock W r (.cells (setCells cells (x0 + s * zz + e.length * zz) d.toList) ct (0, 0)) := by
                    split
                    · rename_i hd0; rw [hd0, setCells_same]; exact (put_same hh).symm
                    · rfl
                  rw [hW'] at hstore
                  have hrun := run_append_room (ty := ty) t (W := W) (base := some ⟨r, x0 + s * zz, none⟩) (sLen := e.length) (sCap := cap) (n := n.length) (hlen W) hroom (hrd W (More.refl W))
                    (W' := putBlock W r (.cells (setCells cells (x0 + s * zz + e.length * zz) d.toList) ct (0, 0))) (fun a ha => by simp at ha; subst ha; rw [add_none]; exact hstore) (fun hn => by cases hn)
                  have hrb : r < W.heap.size := Nat.lt_of_not_le fun hle => by simp [Array.getElem?_eq_none hle] at hh
                  have hget := fun i => get_putBlock (W := W) (o := .cells (setCells cells (x0 + s * zz + e.length * zz) d.toList) ct (0, 0)) hrb i
                  have hown1 : ∀ o, x0 + s * zz + (e.length + n.length) * zz ≤ o → ¬ U g h r o := fun o ho hu => hu.2 gi _ hg ⟨r, x0, zz, hm, rfl, by
                    simp only; rw [hf, Nat.add_mul]; rw [Nat.add_mul] at ho; omega⟩
                  have hUlt : ∀ o, U g h r o → o < x0 + s * zz + e.length * zz := fun o hu => Nat.lt_of_not_le fun hle => hu.2 gi _ hg ⟨r, x0, zz, hm, rfl, by simp only; rw [hf, Nat.add_mul]; omega⟩
                  have hcellold : ∀ o v, U g h r o → W.cell? ⟨r, o, none⟩ = some v → (putBlock W r (.cells (setCells cells (x0 + s * zz + e.length * zz) d.toList) ct (0, 0))).cell? ⟨r, o, none⟩ = some v := by
                    intro o v hu hcv
                    have h9 := hUlt o hu
                    have h10 : cells[o]? = some v := by simpa [World.cell?, hh] using hcv
                    have : (putBlock W r (.cells (setCells cells (x0 + s * zz + e.length * zz) d.toList) ct (0, 0))).heap[r]? = some (.cells (setCells cells (x0 + s * zz + e.length * zz) d.toList) ct (0, 0)) := by rw [hget]; simp
                    simp only [World.cell?, this]
                    rw [get_setCells _ _ _ _ (by simp; omega)]
                    have : ¬ (x0 + s * zz + e.length * zz ≤ o ∧ o < x0 + s * zz + e.length * zz + d.toList.length) := by omega
                    simp only [this, if_false]
                    simpa using h10
                  obtain ⟨g', hr', hext, hmn, hcn, hfr⟩ := replace_sound hr hg hm (W' := putBlock W r (.cells (setCells cells (x0 + s * zz + e.length * zz) d.toList) ct (0, 0))) rfl rfl rfl (by simp [putBlock]) (fun b hb => by rw [hget]; simp [hb]) hcellold
                    (.grow zz (e.length + n.length)) (x0 + s * zz) zz cap hown1
                    (fun g' V' hgl hk _ hmn hcn => ⟨r, x0 + s * zz, setCells cells (x0 + s * zz + e.length * zz) d.toList, ct, hmn, by rw [hget]; simp, by rw [hcn]; exact hroom, by
                      rw [hcn, size_setCells, ← hsz, ← hcc, Nat.add_mul]; omega⟩) (by simp [blkRefs])
                  refine ⟨_, _, g', hrun, ?_, ?_, ?_⟩
                  · simpa [hnl] using hr'
                  · simpa [hnl] using hext
                  · have hzall : ∀ x ∈ e ++ n.map stripL, x.length = zz := fun x hx => by
                      rcases List.mem_append.1 hx with hx | hx
                      · exact hze x hx
                      · exact (hd'.1 x hx).1
                    have hp' := mk_pvs (W := putBlock W r (.cells (setCells cells (x0 + s * zz + e.length * zz) d.toList) ct (0, 0))) (V := U g' ((h.drop gi).push (.grow zz (e.length + n.length)))) (e := e ++ n.map stripL) (b := r) (off := x0 + s * zz) (z := zz) (cap := cap) (by simp; omega) hzall
                      (fun i q j av hi hj => by
                        have hil : i < e.length + n.length := by have := (List.getElem?_eq_some_iff.1 hi).1; simpa using this
                        have hjz : j < zz := by rw [← hzall q (List.mem_of_getElem? hi)]; exact (List.getElem?_eq_some_iff.1 hj).1
                        have hmul2 : (i + 1) * zz ≤ (e.length + n.length) * zz := Nat.mul_le_mul_right _ hil
                        rw [Nat.add_mul] at hmul2
                        have hV : U g' ((h.drop gi).push (.grow zz (e.length + n.length))) r (x0 + s * zz + i * zz + j) := hfr _ (by simp only; omega)
                        rw [List.getElem?_append] at hi
                        split at hi
                        · rename_i hlt
                          rcases inv_pvs hp with ⟨rfl, _⟩ | ⟨b2, o2, z2, cap2, he2, _, hz2, hv2⟩
                          · simp at hlt
                          · simp at he2; obtain ⟨⟨rfl, rfl⟩, rfl⟩ := he2
                            have hzz2 : z2 = zz := (hz2 q (List.mem_of_getElem? hi)).symm.trans (hze q (List.mem_of_getElem? hi))
                            subst hzz2
                            obtain ⟨y', h11, h12, h13⟩ := hv2 i q j av hi hj
                            exact ⟨y', hV, hcellold _ _ h11 h12, h13.mono hext.keeps⟩
                        · rename_i hge
                          obtain ⟨y', h11, h12⟩ := hd'.2.2 _ q j av hi hj
                          have hpu := hpn q (List.mem_of_getElem? hi) av (List.mem_of_getElem? hj)
                          refine ⟨y', hV, ?_, by simpa [hnl] using (h12.ext hext).toP hpu⟩
                          have : (putBlock W r (.cells (setCells cells (x0 + s * zz + e.length * zz) d.toList) ct (0, 0))).heap[r]? = some (.cells (setCells cells (x0 + s * zz + e.length * zz) d.toList) ct (0, 0)) := by rw [hget]; simp
                          simp only [World.cell?, this]
                          rw [get_setCells _ _ _ _ (by simp; omega)]
                          have h14 : i * zz = e.length * zz + (i - e.length) * zz := by rw [← Nat.add_mul]; congr 1; omega
                          have h15 := (Array.getElem?_eq_some_iff.1 h11).1
                          have : x0 + s * zz + e.length * zz ≤ x0 + s * zz + i * zz + j ∧ x0 + s * zz + i * zz + j < x0 + s * zz + e.length * zz + d.toList.length := by simp; omega
                          simp only [this, and_self, if_true]
                          have h16 : x0 + s * zz + i * zz + j - (x0 + s * zz + e.length * zz) = (i - e.length) * zz + j := by omega
                          rw [h16]
                          simpa using h11)
                    have key := VRel.vsg (g := g') (e ++ n.map stripL) h.bl.length 0 r (x0 + s * zz) zz (e ++ n.map stripL).length cap (by simpa using hp') hzall hmn (by rw [hcn]; rfl)
                    simpa [AH.next, hnl] using key
              · -- a new array
                obtain ⟨hr1, he1⟩ := drop_sound hr gi
                have hlayE : ∀ {q : List (List AV)} {k : Array Value}, LayE g W (U g h) zz q k → LayE g W (U g (h.drop gi)) zz q k := fun hl => ⟨hl.1, hl.2.1, fun i x j av hi hj => let ⟨y, a, b⟩ := hl.2.2 i x j av hi hj; ⟨y, a, b.ext he1⟩⟩
                have := append_fresh (ty := ty) hr1 t (base := base) (cap := cap) (hlayE hc) (hlayE hd') hpe hpn (by rw [hnl]; omega) hmax (by rw [hnl]; exact hlen W) (hrc _ md) (by rw [hnl]; exact hrd _ md)
                obtain ⟨y', w', g', h3, h4, h5, h6⟩ := this
                refine ⟨y', w', g', h3, ?_, ?_, ?_⟩
                · simpa [hnl] using h4
                · have := he1.trans h5
                  simpa [hnl] using this
                · simpa [hnl, AH.next, len_drop] using h6
            · cases h2
          · cases h2
      · cases h2
  | _ => simp at ha

end
end Go.Proofs.YtfahpmlckobpmaaGreatDoor.Pi
