/-
  append on numbered slices; copy; make; maps; assertions.
-/
import Derived.Test.YtfahpmlckobpmaaGreatDoorPiC
import Derived.Laws.MakeOwn
import Derived.MapKept
import Derived.Laws.StructEq
set_option linter.unusedSimpArgs false
set_option linter.unusedVariables false
set_option linter.unusedSectionVars false
namespace Go.Proofs.YtfahpmlckobpmaaGreatDoor.Pi
open Go

section
variable {P : Program} {g : G} {h : AH} {W : World}

theorem layE_cells {V : Nat → Nat → Prop} {z : Nat} {n : List (List AV)} {d : Array Value} (hd : LayE g W V z n d) : ∀ v ∈ d.toList, v.oneCell' = true := by
  intro v hv
  obtain ⟨k, hk⟩ := List.mem_iff_getElem?.1 hv
  have hdsz := hd.2.1
  have hk' : k < n.length * z := by have := (List.getElem?_eq_some_iff.1 hk).1; simp at this; omega
  obtain ⟨h3, h4, h5⟩ := divmod hk'
  have hl := (hd.1 n[k / z] (by simp)).1
  obtain ⟨y', h6, h7⟩ := hd.2.2 (k / z) n[k / z] (k % z) ((n[k / z])[k % z]'(by omega)) (by simp [h3]) (by simp [hl, h4])
  rw [h5] at h6
  have : v = y' := by
    have h8 : d[k]? = some v := by simpa using hk
    rw [h8] at h6; simpa using h6
  subst this
  exact oneCell h7 ((hd.1 n[k / z] (by simp)).2 ((n[k / z])[k % z]'(by omega)) (by simp))

theorem layE_refs (hr : HRel g h W) {z : Nat} {n : List (List AV)} {d : Array Value} (hd : LayE g W (U g h) z n d) : ∀ q ∈ n.flatMap refsL, q < h.bl.length := by
  intro q hq
  obtain ⟨x, hx, hq'⟩ := List.mem_flatMap.1 hq
  obtain ⟨a, ha, hq''⟩ := refsL_mem.1 hq'
  obtain ⟨i, hi⟩ := List.mem_iff_getElem?.1 hx
  obtain ⟨j, hj⟩ := List.mem_iff_getElem?.1 ha
  obtain ⟨y, _, h4⟩ := hd.2.2 i x j a hi hj
  exact refs_lt hr h4 q hq''

theorem flat_append {a b : List (List AV)} {q : Nat} : q ∈ (a ++ b).flatMap refsL ↔ q ∈ a.flatMap refsL ∨ q ∈ b.flatMap refsL := by simp

/-- a new array for both, numbered -/
theorem appendm_fresh (hr : HRel g h W) {sT xT ty el : TypeId} {z : Nat} {inf : TypeInfo} {zv : Value} (t : AppT P sT xT el z inf zv) {e n : List (List AV)} {base : Option Addr} {cap : Nat} {yv : Value}
    {c d : Array Value} (hce : LayE g W (U g h) z e c) (hcn : LayE g W (U g h) z n d) (hroom : cap < e.length + n.length) (hmax : e.length + n.length ≤ maxLenA) (hlen : (Builtin.lenOf yv).run P W = .ok n.length W)
    (hold : (Builtin.firstCells z e.length (.slice base e.length cap)).run P W.drew = .ok c W.drew) (hnew : (Builtin.firstCells z n.length yv).run P W.drew = .ok d W.drew) :
    VRes P (Builtin.append_ #[sT, xT] ty #[.slice base e.length cap, yv]) g h W (.ms h.next 0 (e.length + n.length)) (h.push (.rows z (e ++ n))) := by
  obtain ⟨cap', rest, h1, h2, h3⟩ := run_append_new (ty := ty) t hlen hroom hmax hold hnew hce.2.1 hcn.2.1
  have m : More W (W.drew.alloc (.cells (c ++ d ++ rest) el)) := (More.refl W).drew.alloc _
  have hblk : (W.drew.alloc (.cells (c ++ d ++ rest) el)).heap[W.heap.size]? = some (.cells (c ++ d ++ rest) el (0, 0)) := by
    show (W.heap.push _)[W.heap.size]? = _; simp
  obtain ⟨g', hr', he, hm, hc⟩ := push_rows hr m (z := z) (rs := e ++ n) (b := W.heap.size) (c := c ++ d ++ rest) (t := el) cap' (by omega) (Nat.le_refl _) hblk
    (fun row x hx => ⟨by
      rcases List.mem_append.1 (List.mem_of_getElem? hx) with hx | hx
      · exact hce.1 x hx
      · exact hcn.1 x hx, fun j av hj => lay_append (rest := rest) hce hcn row x j av hx hj⟩)
    (fun q hq => by
      rcases flat_append.1 hq with hq | hq
      · exact Nat.le_of_lt (layE_refs hr hce q hq)
      · exact Nat.le_of_lt (layE_refs hr hcn q hq))
  refine ⟨_, _, g', h3, hr', he, ?_⟩
  exact VRel.ms (g := g') h.bl.length 0 (e.length + n.length) cap' W.heap.size 0 z (some ⟨W.heap.size, 0, none⟩) h1 hm (.inl ⟨by simp, by rw [hc]; omega⟩)

theorem append_none (hr : HRel g h W) {sT xT ty el : TypeId} {z : Nat} {inf : TypeInfo} {zv : Value} (t : AppT P sT xT el z inf zv) {base : Option Addr} {len cap : Nat} (hcap : len ≤ cap) {y : AV} {yv : Value} (hy : VRel g W (U g h) y yv)
    (hn : elemsOf h y = some []) : (Builtin.append_ #[sT, xT] ty #[.slice base len cap, yv]).run P W = .ok (.slice base len cap) W := by
  obtain ⟨hlen, c, _, hc⟩ := elems_read (P := P) hr hy hn (z := z) (fun x hx => by cases hx)
  have hc0 : c = #[] := by
    have := hc W (More.refl W)
    cases yv with
    | slice a m k => cases a <;> simp [Builtin.firstCells, loadCells, loadCellsFrom] at this <;> exact this
    | string s => simp [Builtin.firstCells] at this; exact this
    | _ => simp [Builtin.firstCells] at this
  subst hc0
  have := run_append_room (ty := ty) t (W := W) (base := base) (sLen := len) (sCap := cap) (n := 0) (hlen W) (by simpa using hcap) (by simpa using hc W (More.refl W)) (W' := W) (fun a _ => by simp [storeCells]) (fun _ => rfl)
  simpa using this

theorem appendm_sound (hr : HRel g h W) {sT xT ty : TypeId} {z : Nat} (ht : appOK P sT xT z = true) {x y : AV} {xv yv : Value} (hx : VRel g W (U g h) x xv) (hy : VRel g W (U g h) y yv) {v' : AV} {h' : AH}
    (ha : appendmA z h x y = some (v', h')) : VRes P (Builtin.append_ #[sT, xT] ty #[xv, yv]) g h W v' h' := by
  obtain ⟨el, inf, zv, t⟩ := of_appOK ht
  have md : More W W.drew := (More.refl W).drew
  unfold appendmA at ha
  split at ha
  · rename_i e
    obtain ⟨n, h1, h2⟩ := bind_some_iff.1 ha
    obtain ⟨base, cap, rfl, hcap⟩ := vs_slice hx
    split at h2
    · rename_i hemp
      have hn0 : n = [] := by simpa using hemp
      subst hn0
      simp at h2; obtain ⟨rfl, rfl⟩ := h2
      exact VRes.same hr (append_none hr t hcap hy h1) hx
    · rename_i hne
      split at h2
      · rename_i hcond
        simp at h2; obtain ⟨rfl, rfl⟩ := h2
        obtain ⟨hmax, hzn, hze⟩ := hcond
        have hcl : cap = e.length := by
          cases hx with
          | vsx _ _ _ _ => rfl
          | pure _ _ hp => cases hp
        have hnpos : 0 < n.length := by
          rcases Nat.eq_zero_or_pos n.length with h0 | h0
          · exfalso; apply hne; have : n = [] := List.length_eq_zero_iff.1 h0; simp [this]
          · exact h0
        obtain ⟨hlen, d, hd, hrd⟩ := elems_read (P := P) hr hy h1 (all_len hzn)
        obtain ⟨_, c, hc, hrc⟩ := elems_read (P := P) hr hx (n := e) rfl (all_len hze)
        exact appendm_fresh hr t hc hd (by omega) hmax (hlen W) (hrc _ md) (hrd _ md)
      · cases h2
  · rename_i id s l
    obtain ⟨n, h1, h2⟩ := bind_some_iff.1 ha
    obtain ⟨r, x0, zz, cap, a, hm, hcap, rfl, hab⟩ := inv_ms hx
    split at h2
    · rename_i hemp
      have hn0 : n = [] := by simpa using hemp
      subst hn0
      simp at h2; obtain ⟨rfl, rfl⟩ := h2
      exact VRes.same hr (append_none hr t hcap hy h1) hx
    · rename_i hne
      split at h2
      · rename_i z' rs hg
        split at h2
        · rename_i hcond
          simp at h2; obtain ⟨rfl, rfl⟩ := h2
          obtain ⟨rfl, hsl, hmax, hzn⟩ := hcond
          obtain ⟨r2, x2, cells, ct, hm2, hh, hcp, hrel⟩ := hr.blk id _ hg
          rw [hm] at hm2; simp at hm2; obtain ⟨rfl, rfl, rfl⟩ := hm2
          have hnpos : 0 < n.length := by
            rcases Nat.eq_zero_or_pos n.length with h0 | h0
            · exfalso; apply hne; have : n = [] := List.length_eq_zero_iff.1 h0; simp [this]
            · exact h0
          obtain ⟨hlen, d, hd, hrd⟩ := elems_read (P := P) hr hy h1 (all_len hzn)
          have hels : elemsOf h (.ms id s l) = some ((rs.drop s).take l) := by simp [elemsOf, hg, hsl]
          have hel : ((rs.drop s).take l).length = l := by simp; omega
          have hrow : ∀ i c, ((rs.drop s).take l)[i]? = some c → rs[s + i]? = some c := fun i c hi => by
            have hi' : i < l := by have := (List.getElem?_eq_some_iff.1 hi).1; omega
            rw [List.getElem?_take_of_lt hi', List.getElem?_drop] at hi
            exact hi
          have hze : ∀ x ∈ (rs.drop s).take l, x.length = zz := fun x hx => by
            obtain ⟨i, hi⟩ := List.mem_iff_getElem?.1 hx
            exact (hrel _ _ (hrow i x hi)).1.1
          obtain ⟨_, c, hc, hrc⟩ := elems_read (P := P) hr hx hels hze
          by_cases hroom : l + n.length ≤ cap
          · -- there is room
            obtain ⟨rfl, hsc⟩ : a = some ⟨r, x0 + s * zz, none⟩ ∧ s + cap ≤ g.cp id := by
              rcases hab with h | ⟨_, h0⟩
              · exact h
              · omega
            have hmul : (s + l + n.length) * zz ≤ g.cp id * zz := Nat.mul_le_mul_right _ (by omega)
            rw [Nat.add_mul, Nat.add_mul] at hmul
            have hdsz : d.size = n.length * zz := hd.2.1
            have hone := layE_cells hd
            have hstore := run_storeCells (P := P) (b := r) (t := ct) d.toList (x0 + s * zz + l * zz) 0 W cells hh hone (by simp; omega)
            have hW' : (if d.toList = [] then W else putBlock W r (.cells (setCells cells (x0 + s * zz + l * zz + 0) d.toList) ct (0, 0))) = putBlock W r (.cells (setCells cells (x0 + s * zz + l * zz) d.toList) ct (0, 0)) := by
              split
              · rename_i hd0; rw [hd0, setCells_same]; exact (put_same hh).symm
              · rfl
            rw [hW'] at hstore
            have hrun := run_append_room (ty := ty) t (W := W) (base := some ⟨r, x0 + s * zz, none⟩) (sLen := l) (sCap := cap) (n := n.length) (hlen W) hroom (hrd W (More.refl W))
              (W' := putBlock W r (.cells (setCells cells (x0 + s * zz + l * zz) d.toList) ct (0, 0))) (fun a ha => by simp at ha; subst ha; rw [add_none]; exact hstore) (fun hn => by cases hn)
            have hrb : r < W.heap.size := Nat.lt_of_not_le fun hle => by simp [Array.getElem?_eq_none hle] at hh
            have hget := fun i => get_putBlock (W := W) (o := .cells (setCells cells (x0 + s * zz + l * zz) d.toList) ct (0, 0)) hrb i
            have hown : ∀ o, ¬ U g h r o := fun o hu => hu.2 id _ hg ⟨r, x0, zz, hm, rfl, trivial⟩
            obtain ⟨g', hr', hext, hmn, hcn, _⟩ := replace_sound hr hg hm (W' := putBlock W r (.cells (setCells cells (x0 + s * zz + l * zz) d.toList) ct (0, 0))) rfl rfl rfl (by simp [putBlock]) (fun b hb => by rw [hget]; simp [hb]) (fun o v hu _ => absurd hu (hown o))
              (.rows zz ((rs.drop s).take l ++ n)) (x0 + s * zz) zz cap (fun o _ => hown o)
              (fun g' V' hgl hk _ hmn hcn => ⟨r, x0 + s * zz, setCells cells (x0 + s * zz + l * zz) d.toList, ct, hmn, by rw [hget]; simp, by
                rw [hcn, size_setCells]
                have : (s + cap) * zz ≤ g.cp id * zz := Nat.mul_le_mul_right _ hsc
                rw [Nat.add_mul] at this; omega, fun row q hq => by
                rw [List.getElem?_append] at hq
                split at hq
                · rename_i hlt
                  have hq' := hrow row q hq
                  obtain ⟨h3, h4⟩ := hrel _ _ hq'
                  refine ⟨h3, fun j av hj => ?_⟩
                  obtain ⟨v, h5, h6⟩ := h4 j av hj
                  refine ⟨v, ?_, h6.mono hk hgl⟩
                  rw [get_setCells _ _ _ _ (by simp; omega)]
                  have hjz : j < zz := by rw [← h3.1]; exact (List.getElem?_eq_some_iff.1 hj).1
                  have hrl : row < l := by omega
                  have hm2 : (row + 1) * zz ≤ l * zz := Nat.mul_le_mul_right _ hrl
                  rw [Nat.add_mul] at hm2
                  have : ¬ (x0 + s * zz + l * zz ≤ x0 + s * zz + row * zz + j ∧ x0 + s * zz + row * zz + j < x0 + s * zz + l * zz + d.toList.length) := by omega
                  simp only [this, if_false]
                  rw [Nat.add_mul] at h5
                  rw [← h5]; congr 1; omega
                · rename_i hge
                  refine ⟨hd.1 q (List.mem_of_getElem? hq), fun j av hj => ?_⟩
                  obtain ⟨v, h5, h6⟩ := hd.2.2 _ q j av hq hj
                  refine ⟨v, ?_, h6.mono hk hgl⟩
                  rw [get_setCells _ _ _ _ (by simp; omega)]
                  rw [hel] at h5
                  have h15 := (Array.getElem?_eq_some_iff.1 h5).1
                  have h14 : row * zz = l * zz + (row - l) * zz := by rw [← Nat.add_mul]; congr 1; omega
                  have : x0 + s * zz + l * zz ≤ x0 + s * zz + row * zz + j ∧ x0 + s * zz + row * zz + j < x0 + s * zz + l * zz + d.toList.length := by simp; omega
                  simp only [this, and_self, if_true]
                  have h16 : x0 + s * zz + row * zz + j - (x0 + s * zz + l * zz) = (row - l) * zz + j := by omega
                  rw [h16]
                  simpa using h5⟩) (fun q hq => by
                  rcases flat_append.1 hq with hq | hq
                  · exact Nat.le_of_lt (layE_refs hr hc q hq)
                  · exact Nat.le_of_lt (layE_refs hr hd q hq))
            refine ⟨_, _, g', hrun, hr', hext, ?_⟩
            exact VRel.ms (g := g') h.bl.length 0 (l + n.length) cap r (x0 + s * zz) zz (some ⟨r, x0 + s * zz, none⟩) hroom hmn (.inl ⟨by simp, by rw [hcn]; omega⟩)
          · -- a new array
            obtain ⟨hr1, he1⟩ := drop_sound hr id
            have hlayE : ∀ {q : List (List AV)} {k : Array Value}, LayE g W (U g h) zz q k → LayE g W (U g (h.drop id)) zz q k := fun hl => ⟨hl.1, hl.2.1, fun i x j av hi hj => let ⟨y, a, b⟩ := hl.2.2 i x j av hi hj; ⟨y, a, b.ext he1⟩⟩
            have := appendm_fresh (ty := ty) hr1 t (e := (rs.drop s).take l) (base := a) (cap := cap) (hlayE hc) (hlayE hd) (by rw [hel]; omega) (by rw [hel]; exact hmax) (hlen W) (by have hrc2 := hrc _ md; rw [hel] at hrc2; rw [hel]; exact hrc2) (hrd _ md)
            obtain ⟨y', w', g', h3, h4, h5, h6⟩ := this
            refine ⟨y', w', g', by rw [hel] at h3; exact h3, h4, he1.trans h5, ?_⟩
            rw [hel] at h6
            simpa [AH.next, len_drop] using h6
        · cases h2
      · cases h2
  · cases ha

end
end Go.Proofs.YtfahpmlckobpmaaGreatDoor.Pi
/-
  New rows of a length that is told; functions; nil checks.
-/
namespace Go.Proofs.YtfahpmlckobpmaaGreatDoor.Pi
open Go

section
variable {P : Program} {g : G} {h : AH} {W : World}

def mkSliceOK (P : Program) (t : TypeId) (z : List AV) : Bool :=
  match P.underlying t with
  | some (.slice e) => zeroOK P e z && (match P.info? e with | some i => decide (i.bytes ≤ 8388608) | none => false)
  | _ => false

theorem run_makeSlice {t : TypeId} {z : List AV} (ht : mkSliceOK P t z = true) {k l : IntKind} {n c : Int} (h0 : 0 ≤ n) (h1 : n ≤ c) (h2 : c ≤ maxLenA) :
    ∃ e v, (Instr.makeSlice t (.int k n) (.int l c)).run P W = .ok (.slice (some ⟨W.heap.size, 0, none⟩) n.toNat c.toNat) (W.alloc (.cells v e)) ∧
      LayE g W (U g h) z.length (List.replicate c.toNat z) v := by
  unfold mkSliceOK at ht
  split at ht
  · rename_i e hu
    simp only [Bool.and_eq_true] at ht
    obtain ⟨hz, hb⟩ := ht
    obtain ⟨v, r1, r2, r3, r4, r5⟩ := run_zero (P := P) (W := W) hz
    unfold zeroOK at hz
    split at hz
    · rename_i i hi
      simp only [hi, decide_eq_true_eq] at hb
      split at hz
      · rename_i zv hzv
        simp only [Bool.and_eq_true, beq_iff_eq] at hz
        have e1 : zv = v := by
          have : (zeroValue e).run P W = .ok zv W := by unfold zeroValue typeInfo; simp [hi, hzv]
          rw [this] at r1; simpa using r1
        subst e1
        have hc : c ≤ 16777216 := h2
        have hb2 : (i.bytes : Int) * c ≤ 281474976710656 := by
          have h3 : (i.bytes : Int) ≤ 8388608 := by omega
          have h4 : (i.bytes : Int) * c ≤ 8388608 * c := Int.mul_le_mul_of_nonneg_right h3 (by omega)
          omega
        refine ⟨e, _, run_make (P := P) W t e i zv hu hi hzv k l n c h0 h1 hb2 (by omega), ?_⟩
        have := layE_zero (g := g) (W := W) (V := U g h) r2 r3 (r4 g W (U g h)) c.toNat
        rw [hz.2]
        exact this
      · cases hz
    · cases hz
  · cases ht

theorem mkSlice_sound (hr : HRel g h W) {t : TypeId} {z : List AV} (ht : mkSliceOK P t z = true) {k l : IntKind} {n c : Int} (h0 : 0 ≤ n) (h1 : n ≤ c) (h2 : c ≤ maxLenA) :
    VRes P (Instr.makeSlice t (.int k n) (.int l c)) g h W (.ms h.next 0 n.toNat) (h.push (.rows z.length (List.replicate n.toNat z))) := by
  obtain ⟨e, v, hrun, hl⟩ := run_makeSlice (g := g) (h := h) (W := W) ht (k := k) (l := l) h0 h1 h2
  have hnc : n.toNat ≤ c.toNat := by omega
  have hrow : ∀ (row : Nat) (x : List AV), (List.replicate n.toNat z)[row]? = some x → (List.replicate c.toNat z)[row]? = some x := fun row x hx => by
    rw [List.getElem?_replicate] at hx ⊢
    split at hx
    · rename_i hlt; rw [if_pos (by omega)]; exact hx
    · cases hx
  obtain ⟨g', hr', hext, hm, hcp⟩ := push_rows hr ((More.refl W).alloc (.cells v e)) (z := z.length) (rs := List.replicate n.toNat z) (b := W.heap.size) (c := v) (t := e) c.toNat (by rw [hl.2.1]; simp) (Nat.le_refl _)
    (by show (W.heap.push _)[W.heap.size]? = _; simp) (fun row x hx => ⟨hl.1 x (List.mem_of_getElem? (hrow row x hx)), fun j av hj => hl.2.2 row x j av (hrow row x hx) hj⟩) (by
      intro q hq
      obtain ⟨x, hx, hq'⟩ := List.mem_flatMap.1 hq
      obtain ⟨a, ha, hq''⟩ := refsL_mem.1 hq'
      obtain ⟨i, hi⟩ := List.mem_iff_getElem?.1 hx
      obtain ⟨j, hj⟩ := List.mem_iff_getElem?.1 ha
      obtain ⟨y, _, h4⟩ := hl.2.2 i x j a (hrow i x hi) hj
      exact Nat.le_of_lt (refs_lt hr h4 q hq''))
  refine ⟨_, _, g', hrun, hr', hext, ?_⟩
  have := VRel.ms (g := g') (W := W.alloc (.cells v e)) (V := U g' (h.push (.rows z.length (List.replicate n.toNat z)))) h.bl.length 0 n.toNat c.toNat W.heap.size 0 z.length (some ⟨W.heap.size, 0, none⟩) hnc hm (.inl ⟨by simp, by rw [hcp]; omega⟩)
  exact this

theorem mkSlicev_sound (hr : HRel g h W) {t : TypeId} {z : List AV} (ht : mkSliceOK P t z = true) {k l : IntKind} {c : Int} (h0 : 0 ≤ c) (h2 : c ≤ maxLenA) :
    VRes P (Instr.makeSlice t (.int k 0) (.int l c)) g h W (.vs [] (.grow h.next 0)) (h.push (.grow z.length 0)) := by
  obtain ⟨e, v, hrun, hl⟩ := run_makeSlice (g := g) (h := h) (W := W) ht (k := k) (l := l) (Int.le_refl 0) h0 h2
  have hsz : v.size = c.toNat * z.length := by rw [hl.2.1]; simp
  obtain ⟨g', hr', hext, hm, hcp⟩ := push_sound hr ((More.refl W).alloc (.cells v e)) (.grow z.length 0) W.heap.size 0 z.length c.toNat (Nat.le_refl _)
    (fun g' V' hgl hk hm hc => ⟨W.heap.size, 0, v, e, hm, by show (W.heap.push _)[W.heap.size]? = _; simp, Nat.zero_le _, by rw [hc, hsz]; omega⟩) (by simp [blkRefs])
  refine ⟨_, _, g', hrun, hr', hext, ?_⟩
  have := VRel.vsg (g := g') (W := W.alloc (.cells v e)) (V := U g' (h.push (.grow z.length 0))) [] h.bl.length 0 W.heap.size 0 z.length 0 c.toNat (.vs0 _ _) (by simp) hm (by rw [hcp]; rfl)
  simpa [AH.next] using this

theorem nilck_sound (hr : HRel g h W) {x : AV} {xv : Value} (hx : VRel g W (U g h) x xv) (hn : (match (generalizing := false) x with | .ref _ | .ptr _ _ _ | .iface _ _ | .fn _ _ _ => true | _ => false) = true) (o : Oper) (xo : Operand) (ρ : Operand → Value) (ho : o.op = .nilCheck xo) (he : ρ xo = xv) :
    (execOp ρ o).run P W = .ok (.value xv) W := by
  unfold execOp
  rw [ho]
  simp only [he]
  cases x with
  | ref cs => obtain ⟨b, off, val, rfl, _⟩ := inv_ref hx; rfl
  | ptr id row off => obtain ⟨r, x, z, _, rfl⟩ := inv_ptr hx; rfl
  | iface t v => obtain ⟨x, rfl, _⟩ := inv_iface hx; rfl
  | fn f a b => obtain ⟨x, y, rfl, _⟩ := inv_fn hx; rfl
  | _ => cases hn

theorem evs_rel {fr : Fr} {a : Act} (r : FRel g h W fr a.tmps) : ∀ {xs : List Opd} {os : List Operand}, xs.length = os.length → ((xs.zip os).all fun p => chkOpd p.1 p.2) = true →
    (evL fr xs).length = (os.map a.eval).length ∧ ∀ (i : Nat) (av : AV) (v : Value), (evL fr xs)[i]? = some av → (os.map a.eval)[i]? = some v → VRel g W (U g h) av v := by
  intro xs os hl hc
  refine ⟨by simp [evL, hl], fun i av v h1 h2 => ?_⟩
  simp only [evL, List.getElem?_map] at h1 h2
  cases hx : xs[i]? with
  | none => simp [hx] at h1
  | some x =>
    cases ho : os[i]? with
    | none => simp [ho] at h2
    | some o =>
      simp [hx] at h1; simp [ho] at h2
      subst h1; subst h2
      have hm : (x, o) ∈ xs.zip os := by
        refine List.mem_of_getElem? (i := i) ?_
        rw [List.getElem?_zip_eq_some]; exact ⟨hx, ho⟩
      exact chkOpd_rel r (List.all_eq_true.1 hc _ hm)

end
end Go.Proofs.YtfahpmlckobpmaaGreatDoor.Pi
/-
  Maps.
-/
namespace Go.Proofs.YtfahpmlckobpmaaGreatDoor.Pi
open Go

section
variable {P : Program} {g : G} {h : AH} {W : World}

/-- a key type of kind kk: 0 a number, 1 a text, 2 two numbers -/
def keyT (P : Program) (kk : Nat) (t : TypeId) : Bool :=
  match kk, P.underlying t with
  | 0, some (.int _) => true
  | 1, some .string => true
  | 2, some (.struct fs) =>
    match fs.toList with
    | [a, b] => !P.stoodInHeld t && (a.name != "_") && (b.name != "_") && (a.offset == 0) && (b.offset == 1) && aggOK P a.type false && aggOK P b.type false &&
      (match P.underlying a.type, P.underlying b.type with | some (.int _), some (.int _) => true | _, _ => false)
    | _ => false
  | _, _ => false

/-- the model's value of a key -/
def KV : AV → Value → Prop
  | .int k n, v => v = .int k n
  | .str s, v => ∃ b, v = .string b ∧ bytesOf b = s
  | .agg [.int k a, .int l b], v => v = .agg #[.int k a, .int l b]
  | _, _ => False

theorem kv_of {V : Nat → Nat → Prop} {kk : Nat} {k : AV} {v : Value} (hk : keyIs kk k = true) (hv : VRel g W V k v) : KV k v := by
  unfold keyIs at hk
  split at hk
  · exact inv_int hv
  · exact inv_str hv
  · rename_i p a q b
    obtain ⟨x, rfl, _, hl, hr⟩ := inv_agg hv
    match x, hl, hr with
    | ⟨[u, w]⟩, _, hr =>
      have h0 := inv_int (hr 0 _ u rfl rfl)
      have h1 := inv_int (hr 1 _ w rfl rfl)
      subst h0; subst h1; rfl
    | ⟨[]⟩, hl, _ => simp at hl
    | ⟨[u]⟩, hl, _ => simp at hl
    | ⟨u :: v :: w :: l⟩, hl, _ => simp at hl
  · cases hk

theorem keyEq_is {a b : AV} {r : Bool} (h : keyEq a b = some r) {kk : Nat} (ha : keyIs kk a = true) : keyIs kk b = true := by
  unfold keyEq at h
  split at h
  · unfold keyIs at ha ⊢; split at ha <;> simp_all
  · unfold keyIs at ha ⊢; split at ha <;> simp_all
  · unfold keyIs at ha ⊢; split at ha <;> simp_all
  · cases h

theorem bytes_beq (a b : ByteArray) : (a == b) = decide (bytesOf a = bytesOf b) := by
  by_cases hab : a = b
  · subst hab; simp [MapKept.bytes_beq]
  · have : bytesOf a ≠ bytesOf b := fun he => hab (by
      have := bytesOf_inj.1 he
      cases a; cases b
      simp only [ByteArray.mk.injEq]
      exact Array.toList_inj.1 this)
    have h2 : (a == b) = false := by
      cases hq : a == b with
      | true => exact absurd ((MapKept.bytes_beq _ _).1 hq) hab
      | false => rfl
    simp [h2, this]

theorem sameNow_eq {d : TypeDesc} {a b : AV} {av bv : Value} (hd : (∃ q, d = .int q) ∨ d = .string) (ha : KV a av) (hb : KV b bv) {r : Bool} (hr : keyEq a b = some r)
    (hk : (∃ q n, a = .int q n ∧ ∃ q, d = .int q) ∨ (∃ s, a = .str s ∧ d = .string)) : Instr.sameNow d av bv = some r := by
  rcases hk with ⟨q, n, rfl, p, rfl⟩ | ⟨s, rfl, rfl⟩
  · cases b <;> simp only [keyEq, reduceCtorEq] at hr
    rename_i l m
    simp only [KV] at ha hb
    subst ha; subst hb
    split at hr
    · rename_i e; subst e; simp at hr; subst hr
      simp only [Instr.sameNow, if_true]
      congr 1
    · cases hr
  · cases b <;> simp only [keyEq, reduceCtorEq, Option.some.injEq] at hr
    rename_i s'
    obtain ⟨x, rfl, rfl⟩ := ha
    obtain ⟨y, rfl, rfl⟩ := hb
    subst hr
    simp only [Instr.sameNow]
    rw [bytes_beq]

theorem run_part_int {t : TypeId} (ha : aggOK P t false = true) {cs : Array Value} {i : Nat} {v : Value} (hv : cs[i]? = some v) : (part t cs i).run P W = .ok v W := by
  unfold part
  rw [Sem.run_bind, run_isAgg ha]
  simp [hv]

theorem run_equal_pair {t : TypeId} (ht : keyT P 2 t = true) {k l : IntKind} {a b c d : Int} :
    (Op.equal t (.agg #[.int k a, .int l b]) (.agg #[.int k c, .int l d])).run P W = .ok (decide (a = c) && decide (b = d)) W := by
  obtain ⟨fs, hu⟩ : ∃ fs, P.underlying t = some (.struct fs) := by
    unfold keyT at ht
    split at ht
    · first | contradiction | omega
    · first | contradiction | omega
    · rename_i hu; exact ⟨_, hu⟩
    · cases ht
  simp only [keyT, hu] at ht
  split at ht
  · rename_i x y hfs
    simp only [Bool.and_eq_true, Bool.not_eq_true', bne_iff_ne, ne_eq, beq_iff_eq] at ht
    obtain ⟨⟨⟨⟨⟨⟨⟨hst, hnx⟩, hny⟩, hox⟩, hoy⟩, hax⟩, hay⟩, hint⟩ := ht
    split at hint
    · rename_i p q hp hq
      have e : fs = #[x, y] := by apply Array.toList_inj.1; rw [hfs]
      subst e
      have eqi : ∀ (n : Nat) (u : TypeId) (q : IntKind) (k : IntKind) (a c : Int), P.underlying u = some (.int q) → (Op.equalIn (n + 1) u (.int k a) (.int k c)).run P W = .ok (a == c) W := fun n u q k a c hq => by
        unfold Op.equalIn
        rw [Sem.run_bind, run_underlying hq]
        simp
      have : (Op.equal t (.agg #[.int k a, .int l b]) (.agg #[.int k c, .int l d])) = Op.equalIn (9998 + 2) t (.agg #[.int k a, .int l b]) (.agg #[.int k c, .int l d]) := rfl
      rw [this]
      unfold Op.equalIn
      rw [Sem.run_bind, run_underlying hu]
      simp only [Result.andThen_ok, Sem.run_bind, run_program, hst, Bool.false_eq_true, if_false]
      have p0 : (part x.type #[Value.int k a, Value.int l b] x.offset).run P W = .ok (.int k a) W := run_part_int hax (by rw [hox]; rfl)
      have p1 : (part x.type #[Value.int k c, Value.int l d] x.offset).run P W = .ok (.int k c) W := run_part_int hax (by rw [hox]; rfl)
      have p2 : (part y.type #[Value.int k a, Value.int l b] y.offset).run P W = .ok (.int l b) W := run_part_int hay (by rw [hoy]; rfl)
      have p3 : (part y.type #[Value.int k c, Value.int l d] y.offset).run P W = .ok (.int l d) W := run_part_int hay (by rw [hoy]; rfl)
      rw [← Array.forIn_toList]
      by_cases h1 : a = c
      · by_cases h2 : b = d
        · subst h1; subst h2
          simp [List.forIn_cons, hnx, hny, p0, p1, p2, p3, eqi, hp, hq, Sem.run_bind]
        · subst h1
          simp [List.forIn_cons, hnx, hny, p0, p1, p2, p3, eqi _ _ _ _ _ _ hp, eqi _ _ _ _ _ _ hq, Sem.run_bind, h2]
      · simp [List.forIn_cons, hnx, hny, p0, p1, p2, p3, eqi _ _ _ _ _ _ hp, eqi _ _ _ _ _ _ hq, Sem.run_bind, h1]
    · cases hint
  · cases ht

theorem run_equal_key {kk : Nat} {t : TypeId} (ht : keyT P kk t = true) {a b : AV} {av bv : Value} (hka : keyIs kk a = true) (ha : KV a av) (hb : KV b bv) {r : Bool} (hr : keyEq a b = some r) :
    (Op.equal t av bv).run P W = .ok r W := by
  have hkb := keyEq_is hr hka
  unfold keyIs at hka
  split at hka
  · rename_i q n
    simp only [keyT] at ht
    split at ht
    · rename_i p _ hu
      unfold keyEq at hr
      cases b <;> simp only [reduceCtorEq] at hr
      rename_i l m
      simp only [KV] at ha hb; subst ha; subst hb
      split at hr
      · rename_i e; subst e; simp at hr; subst hr
        have : (Op.equal t (.int q n) (.int q m)) = Op.equalIn (9999 + 1) t (.int q n) (.int q m) := rfl
        rw [this, run_equalIn_int (P := P) W 9999 t q p n m hu]
        rfl
      · cases hr
    all_goals (first | contradiction | omega)
  · rename_i s
    simp only [keyT] at ht
    split at ht
    · first | contradiction | omega
    · rename_i hu
      unfold keyEq at hr
      cases b <;> simp only [reduceCtorEq, Option.some.injEq] at hr
      obtain ⟨x, rfl, rfl⟩ := ha
      obtain ⟨y, rfl, rfl⟩ := hb
      subst hr
      have : (Op.equal t (.string x) (.string y)) = Op.equalIn (9999 + 1) t (.string x) (.string y) := rfl
      rw [this, run_equalIn_string (P := P) W 9999 t x y hu, eq_bytes]
    all_goals (first | contradiction | omega)
  · rename_i q n q' n'
    unfold keyIs at hkb
    split at hkb
    · first | contradiction | omega
    · first | contradiction | omega
    · rename_i k c l d
      simp only [KV] at ha hb; subst ha; subst hb
      simp only [keyEq] at hr
      split at hr
      · rename_i e; obtain ⟨rfl, rfl⟩ := e; simp at hr; subst hr
        exact run_equal_pair ht
      · cases hr
    · cases hkb
  · cases hka

/-- what findKeyA finds, and where -/
theorem findA_spec {k : AV} : ∀ {es : List (AV × AV)} {r : Option AV}, findKeyA k es = some r →
    (r = none ∧ (∀ (v : AV), setKeyA k v es = some (es ++ [(k, v)])) ∧ ∀ e ∈ es, keyEq k e.1 = some false) ∨
    ∃ j x y, r = some y ∧ es[j]? = some (x, y) ∧ keyEq k x = some true ∧ (∀ (v : AV), setKeyA k v es = some (es.set j (x, v))) ∧ ∀ i e, i < j → es[i]? = some e → keyEq k e.1 = some false
  | [], r, h => by simp [findKeyA] at h; subst h; exact .inl ⟨rfl, fun v => rfl, by simp⟩
  | (x, y) :: es, r, h => by
    simp only [findKeyA] at h
    split at h
    · rename_i he
      simp at h; subst h
      exact .inr ⟨0, x, y, rfl, rfl, he, fun v => by simp [setKeyA, he], fun i e hi => by omega⟩
    · rename_i he
      rcases findA_spec h with ⟨rfl, h2, h3⟩ | ⟨j, x', y', rfl, h2, h3, h4, h5⟩
      · refine .inl ⟨rfl, fun v => by simp [setKeyA, he, h2], fun e hm => ?_⟩
        rcases List.mem_cons.1 hm with rfl | hm
        · exact he
        · exact h3 e hm
      · refine .inr ⟨j + 1, x', y', rfl, by simpa using h2, h3, fun v => by simp [setKeyA, he, h4], fun i e hi hg => ?_⟩
        cases i with
        | zero => simp at hg; subst hg; exact he
        | succ i => exact h5 i e (by omega) (by simpa using hg)
    · cases h

theorem set_find {k v : AV} : ∀ {es es' : List (AV × AV)}, setKeyA k v es = some es' → ∃ r, findKeyA k es = some r
  | [], es', h => ⟨none, rfl⟩
  | (x, y) :: es, es', h => by
    simp only [setKeyA] at h
    split at h
    · rename_i he; exact ⟨some y, by simp [findKeyA, he]⟩
    · rename_i he
      cases hs : setKeyA k v es with
      | none => simp [hs] at h
      | some l =>
        obtain ⟨r, hr⟩ := set_find hs
        exact ⟨r, by simp [findKeyA, he, hr]⟩
    · cases h

theorem run_asking {kk : Nat} {t : TypeId} (ht : keyT P kk t = true) {k : AV} {kv : Value} (hk : keyIs kk k = true) (hkv : KV k kv) :
    ∀ {l : List MapEntry} {es : List (AV × AV)} (i : Nat), l.length = es.length → (∀ (j : Nat) (e : MapEntry) (a : AV × AV) (r : Bool), l[j]? = some e → es[j]? = some a → keyEq k a.1 = some r → KV a.1 e.key) →
      ((∀ e ∈ es, keyEq k e.1 = some false) → (Instr.findAsking t kv l i).run P W = .ok none W ∧ ∀ d, (∃ q, d = .int q ∧ kk = 0) ∨ (d = .string ∧ kk = 1) → Instr.findNow d kv l i = some none) ∧
      (∀ (j : Nat) (e : MapEntry) (a : AV × AV), l[j]? = some e → es[j]? = some a → keyEq k a.1 = some true → (∀ i e, i < j → es[i]? = some e → keyEq k e.1 = some false) →
        (Instr.findAsking t kv l i).run P W = .ok (some (i + j, e.val)) W ∧ ∀ d, (∃ q, d = .int q ∧ kk = 0) ∨ (d = .string ∧ kk = 1) → Instr.findNow d kv l i = some (some (i + j, e.val)))
  | [], [], i, _, _ => ⟨fun _ => ⟨rfl, fun _ _ => rfl⟩, fun j e a h => by simp at h⟩
  | [], _ :: _, _, h, _ => by simp at h
  | _ :: _, [], _, h, _ => by simp at h
  | e0 :: l, a0 :: es, i, hl, hrel => by
    have ih := run_asking ht hk hkv (l := l) (es := es) (i + 1) (by simpa using hl) (fun j e a r h1 h2 => hrel (j + 1) e a r (by simpa using h1) (by simpa using h2))
    have step : ∀ r, keyEq k a0.1 = some r → (Op.equal t kv e0.key).run P W = .ok r W ∧ ∀ d, (∃ q, d = .int q ∧ kk = 0) ∨ (d = .string ∧ kk = 1) → Instr.sameNow d kv e0.key = some r := fun r hr => by
      have hkv0 := hrel 0 e0 a0 r rfl rfl hr
      refine ⟨run_equal_key ht hk hkv hkv0 hr, fun d hd => ?_⟩
      rcases hd with ⟨q, rfl, rfl⟩ | ⟨rfl, rfl⟩
      · refine sameNow_eq (.inl ⟨q, rfl⟩) hkv hkv0 hr (.inl ?_)
        unfold keyIs at hk
        split at hk
        · exact ⟨_, _, rfl, _, rfl⟩
        all_goals (first | contradiction | omega)
      · refine sameNow_eq (.inr rfl) hkv hkv0 hr (.inr ?_)
        unfold keyIs at hk
        split at hk
        · first | contradiction | omega
        · exact ⟨_, rfl, rfl⟩
        all_goals (first | contradiction | omega)
    refine ⟨fun hno => ?_, fun j e a h1 h2 h3 h4 => ?_⟩
    · obtain ⟨s1, s2⟩ := step false (hno a0 (by simp))
      obtain ⟨i1, i2⟩ := ih.1 fun e he => hno e (by simp [he])
      exact ⟨by simp [Instr.findAsking, s1, i1], fun d hd => by simp [Instr.findNow, s2 d hd, i2 d hd]⟩
    · cases j with
      | zero =>
        simp at h1 h2; subst h1; subst h2
        obtain ⟨s1, s2⟩ := step true h3
        exact ⟨by simp [Instr.findAsking, s1], fun d hd => by simp [Instr.findNow, s2 d hd]⟩
      | succ j =>
        obtain ⟨s1, s2⟩ := step false (h4 0 a0 (by omega) rfl)
        obtain ⟨i1, i2⟩ := ih.2 j e a (by simpa using h1) (by simpa using h2) h3 fun i e hi hg => h4 (i + 1) e (by omega) (by simpa using hg)
        have e1 : i + 1 + j = i + (j + 1) := by omega
        rw [e1] at i1 i2
        exact ⟨by simp [Instr.findAsking, s1, i1], fun d hd => by simp [Instr.findNow, s2 d hd, i2 d hd]⟩

theorem keyT_ty {kk : Nat} {t : TypeId} (ht : keyT P kk t = true) : ∃ d, P.underlying t = some d ∧ ((∃ q, d = .int q ∧ kk = 0) ∨ (d = .string ∧ kk = 1) ∨ (∃ fs, d = .struct fs ∧ kk = 2)) := by
  unfold keyT at ht
  split at ht
  · rename_i hu; exact ⟨_, hu, .inl ⟨_, rfl, rfl⟩⟩
  · rename_i hu; exact ⟨_, hu, .inr (.inl ⟨rfl, rfl⟩)⟩
  · rename_i hu; exact ⟨_, hu, .inr (.inr ⟨_, rfl, rfl⟩)⟩
  · cases ht

end
end Go.Proofs.YtfahpmlckobpmaaGreatDoor.Pi
/-
  Maps: looking up, setting.
-/
namespace Go.Proofs.YtfahpmlckobpmaaGreatDoor.Pi
open Go

section
variable {P : Program} {g : G} {h : AH} {W : World}

theorem run_check_int {t : TypeId} {q k : IntKind} {a : Int} (hu : P.underlying t = some (.int q)) (e : Bool) (n : Nat) : (Instr.checkKey e (n + 1) t (.int k a)).run P W = .ok () W := by
  unfold Instr.checkKey
  rw [Sem.run_bind, run_underlying hu]
  rfl

theorem run_check_str {t : TypeId} {b : ByteArray} (hu : P.underlying t = some .string) (e : Bool) (n : Nat) : (Instr.checkKey e (n + 1) t (.string b)).run P W = .ok () W := by
  unfold Instr.checkKey
  rw [Sem.run_bind, run_underlying hu]
  rfl

theorem run_check {kk : Nat} {t : TypeId} (ht : keyT P kk t = true) {k : AV} {kv : Value} (hk : keyIs kk k = true) (hkv : KV k kv) (e : Bool) : (Instr.checkKey e 10000 t kv).run P W = .ok () W := by
  obtain ⟨d, hu, hd⟩ := keyT_ty ht
  unfold keyIs at hk
  split at hk
  · simp only [KV] at hkv; subst hkv
    rcases hd with ⟨q, rfl, _⟩ | ⟨rfl, h1⟩ | ⟨fs, rfl, h1⟩
    · exact run_check_int hu e 9999
    all_goals (first | contradiction | omega)
  · obtain ⟨b, rfl, _⟩ := hkv
    rcases hd with ⟨q, rfl, h1⟩ | ⟨rfl, h1⟩ | ⟨fs, rfl, h1⟩
    · omega
    · exact run_check_str hu e 9999
    · omega
  · rename_i k1 n1 k2 n2
    simp only [KV] at hkv; subst hkv
    rcases hd with ⟨q, rfl, h1⟩ | ⟨rfl, h1⟩ | ⟨fs, rfl, _⟩
    · omega
    · omega
    · simp only [keyT, hu] at ht
      split at ht
      · rename_i x y hfs
        simp only [Bool.and_eq_true, Bool.not_eq_true', bne_iff_ne, ne_eq, beq_iff_eq] at ht
        obtain ⟨⟨⟨⟨⟨⟨⟨hst, hnx⟩, hny⟩, hox⟩, hoy⟩, hax⟩, hay⟩, hint⟩ := ht
        split at hint
        · rename_i p q hp hq
          have e0 : fs = #[x, y] := by apply Array.toList_inj.1; rw [hfs]
          subst e0
          have eqi : ∀ (n : Nat) (u : TypeId) (q : IntKind) (k : IntKind) (a : Int), P.underlying u = some (.int q) → (Instr.checkKey e (n + 1) u (.int k a)).run P W = .ok () W := fun n u q k a hq => run_check_int hq e n
          have : Instr.checkKey e 10000 t (.agg #[.int k1 n1, .int k2 n2]) = Instr.checkKey e (9998 + 2) t (.agg #[.int k1 n1, .int k2 n2]) := rfl
          rw [this]
          unfold Instr.checkKey
          rw [Sem.run_bind, run_underlying hu]
          simp only [Result.andThen_ok]
          have p0 : (part x.type #[Value.int k1 n1, Value.int k2 n2] x.offset).run P W = .ok (.int k1 n1) W := run_part_int hax (by rw [hox]; rfl)
          have p1 : (part y.type #[Value.int k1 n1, Value.int k2 n2] y.offset).run P W = .ok (.int k2 n2) W := run_part_int hay (by rw [hoy]; rfl)
          rw [← Array.forIn_toList]
          simp [hnx, hny, p0, p1, eqi _ _ _ _ _ hp, eqi _ _ _ _ _ hq, Sem.run_bind]
        · cases hint
      · cases ht
  · cases hk

/-- the entries of a map and what is known of them -/
def EntR (g : G) (W : World) (V : Nat → Nat → Prop) (es : List (AV × AV)) (arr : Array MapEntry) : Prop :=
  arr.size = es.length ∧ ∀ (i : Nat) (k v : AV) (e : MapEntry), es[i]? = some (k, v) → arr[i]? = some e → (k.refs = [] ∧ VRel g W V k e.key) ∧ VRel g W V v e.val

theorem find_sound {V : Nat → Nat → Prop} {kk : Nat} {t : TypeId} (ht : keyT P kk t = true) {k : AV} {kv : Value} (hk : keyIs kk k = true) (hkv : KV k kv) {es : List (AV × AV)} {arr : Array MapEntry} (he : EntR g W V es arr) {r : Option AV} (hr : findKeyA k es = some r) :
    (r = none ∧ (Instr.findKey t kv arr.toList).run P W = .ok none W ∧ ∀ v, setKeyA k v es = some (es ++ [(k, v)])) ∨
    ∃ j x y e, r = some y ∧ es[j]? = some (x, y) ∧ arr[j]? = some e ∧ keyEq k x = some true ∧ KV x e.key ∧ (Instr.findKey t kv arr.toList).run P W = .ok (some (j, e.val)) W ∧ ∀ v, setKeyA k v es = some (es.set j (x, v)) := by
  obtain ⟨d, hu, hd⟩ := keyT_ty ht
  have hkvs : ∀ (j : Nat) (e : MapEntry) (a : AV × AV) (r : Bool), arr.toList[j]? = some e → es[j]? = some a → keyEq k a.1 = some r → KV a.1 e.key := fun j e a r h1 h2 h3 =>
    kv_of (keyEq_is h3 hk) (he.2 j a.1 a.2 e h2 (by simpa using h1)).1.2
  have hask := run_asking (W := W) ht hk hkv (l := arr.toList) (es := es) 0 (by simpa using he.1) hkvs
  -- from the two ways of looking to one
  have fin : ∀ o, (Instr.findAsking t kv arr.toList 0).run P W = .ok o W → (∀ d, (∃ q, d = .int q ∧ kk = 0) ∨ (d = .string ∧ kk = 1) → Instr.findNow d kv arr.toList 0 = some o) → (Instr.findKey t kv arr.toList).run P W = .ok o W := fun o h1 h2 => by
    unfold Instr.findKey
    rw [Sem.run_bind, run_underlying hu]
    simp only [Result.andThen_ok]
    rcases hd with h3 | h3 | ⟨fs, rfl, h4⟩
    · rw [h2 d (.inl h3)]; rfl
    · rw [h2 d (.inr h3)]; rfl
    · cases ha : arr.toList with
      | nil =>
        rw [ha] at h1
        simp only [Instr.findNow]
        simpa [Instr.findAsking] using h1
      | cons e l =>
        have : Instr.findNow (.struct fs) kv (e :: l) 0 = none := by simp [Instr.findNow, Instr.sameNow]
        rw [this]
        rw [ha] at h1
        exact h1
  rcases findA_spec hr with ⟨rfl, h2, h3⟩ | ⟨j, x, y, rfl, h2, h3, h4, h5⟩
  · obtain ⟨a1, a2⟩ := hask.1 h3
    exact .inl ⟨rfl, fin none a1 a2, h2⟩
  · have hj : j < arr.size := by rw [he.1]; exact (List.getElem?_eq_some_iff.1 h2).1
    obtain ⟨a1, a2⟩ := hask.2 j arr[j] (x, y) (by simp [hj]) h2 h3 h5
    rw [Nat.zero_add] at a1 a2
    exact .inr ⟨j, x, y, arr[j], rfl, h2, by simp [hj], h3, hkvs j _ _ _ (by simp [hj]) h2 h3, fin _ a1 a2, h4⟩

def mapT (P : Program) (kk : Nat) (t : TypeId) : Bool :=
  match P.underlying t with
  | some (.map k _) => keyT P kk k
  | _ => false

def mapZ (P : Program) (t : TypeId) (z : AV) : Bool :=
  match P.underlying t with
  | some (.map _ e) => (match P.info? e with | some i => (match i.zero with | some v => cstOK z v | none => false) | none => false)
  | _ => false

theorem lookup_sound (hr : HRel g h W) {kk : Nat} {t : TypeId} (ht : mapT P kk t = true) {z : AV} (hz : mapZ P t z = true) {x k : AV} {xv kv : Value} (hx : VRel g W (U g h) x xv) (hkr : VRel g W (U g h) k kv) (hk : keyIs kk k = true) {ok : Bool} {v : AV}
    (hv : (match (generalizing := false) x with
      | .nilm => some (if ok then AV.tup [z, .bool false] else z)
      | .map id =>
        match h.get id with
        | some (.map es) => (findKeyA k es).map fun | some v => if ok then AV.tup [v, .bool true] else v | none => if ok then AV.tup [z, .bool false] else z
        | _ => none
      | _ => none) = some v) : VRes P (Instr.lookup t xv kv ok) g h W v h := by
  unfold mapT at ht
  split at ht
  · rename_i kt et hu
    simp only [mapZ, hu] at hz
    split at hz
    · rename_i i hi
      split at hz
      · rename_i zv hzv
        have hkv := kv_of hk hkr
        have hzr : (zeroValue et).run P W = .ok zv W := by unfold zeroValue typeInfo; simp [hi, hzv]
        have miss : ∀ {a : AV}, a = (if ok then AV.tup [z, .bool false] else z) → VRel g W (U g h) a (if ok then .tuple #[zv, .bool false] else zv) := fun {a} ha => by
          subst ha
          cases ok with
          | false => exact cstOK_rel hz
          | true =>
            refine .tup _ _ rfl fun i av v h1 h2 => ?_
            match i, h1, h2 with
            | 0, h1, h2 => simp at h1 h2; subst h1; subst h2; exact cstOK_rel hz
            | 1, h1, h2 => simp at h1 h2; subst h1; subst h2; exact .pure _ _ (.bool _)
            | n + 2, h1, _ => simp at h1
        cases x with
        | nilm =>
          simp only [Option.some.injEq] at hv
          obtain rfl := inv_nilm hx
          refine VRes.same hr (x := if ok then .tuple #[zv, .bool false] else zv) ?_ (miss hv.symm)
          unfold Instr.lookup
          have hfind := find_sound (g := g) (W := W) (V := U g h) (es := []) (arr := #[]) ht hk hkv ⟨rfl, by simp⟩ (r := none) rfl
          rcases hfind with ⟨_, hf, _⟩ | ⟨_, _, _, _, hh, _⟩
          · rw [Sem.run_bind, run_underlying hu]
            simp only [Result.andThen_ok, Sem.run_bind, Sem.run_pure, run_check ht hk hkv, hf, hzr]
          · cases hh
        | map id =>
          simp only at hv
          split at hv
          · rename_i es hg
            obtain ⟨r0, x0, z0, hm, rfl⟩ := inv_map hx
            obtain ⟨r1, x1, z1, arr, cl, hm1, hh, hs, hrel⟩ := hr.blk id _ hg
            rw [hm] at hm1; simp at hm1; obtain ⟨rfl, rfl, rfl⟩ := hm1
            cases hfk : findKeyA k es with
            | none => simp [hfk] at hv
            | some rr =>
              simp [hfk] at hv
              have hget : (getObj r0).run P W = .ok (.map arr cl) W := by simp [getObj, Sem.run, hh]
              rcases find_sound (g := g) (W := W) (V := U g h) ht hk hkv ⟨hs, hrel⟩ hfk with ⟨rfl, hf, _⟩ | ⟨j, x, y, e, rfl, h2, h3, h4, h5, hf, _⟩
              · refine VRes.same hr (x := if ok then .tuple #[zv, .bool false] else zv) ?_ (miss (by simpa using hv.symm))
                unfold Instr.lookup
                rw [Sem.run_bind, run_underlying hu]
                simp only [Result.andThen_ok, Sem.run_bind, Sem.run_pure, hget, run_check ht hk hkv, hf, hzr]
              · refine VRes.same hr (x := if ok then .tuple #[e.val, .bool true] else e.val) ?_ ?_
                · unfold Instr.lookup
                  rw [Sem.run_bind, run_underlying hu]
                  simp only [Result.andThen_ok, Sem.run_bind, Sem.run_pure, hget, run_check ht hk hkv, hf]
                · have hy := (hrel j x y e h2 h3).2
                  simp at hv
                  subst hv
                  cases ok with
                  | false => exact hy
                  | true =>
                    refine .tup _ _ rfl fun i av v h1 h2 => ?_
                    match i, h1, h2 with
                    | 0, h1, h2 => simp at h1 h2; subst h1; subst h2; exact hy
                    | 1, h1, h2 => simp at h1 h2; subst h1; subst h2; exact .pure _ _ (.bool _)
                    | n + 2, h1, _ => simp at h1
          · cases hv
        | _ => cases hv
      · cases hz
    · cases hz
  · cases ht

end
end Go.Proofs.YtfahpmlckobpmaaGreatDoor.Pi
/-
  Maps: setting.
-/
namespace Go.Proofs.YtfahpmlckobpmaaGreatDoor.Pi
open Go

section
variable {P : Program} {g : G} {h : AH} {W : World}

theorem U_map {id : Nat} {es es' : List (AV × AV)} (hg : h.get id = some (.map es)) : U g (h.set id (.map es')) = U g h := by
  funext b o
  apply propext
  have hid := get_lt hg
  constructor
  · intro hu
    refine ⟨hu.1, fun i blk hi ho => ?_⟩
    by_cases he : i = id
    · subst he
      rw [hg] at hi; simp at hi; subst hi
      exact hu.2 i (.map es') (by rw [get_set hid]; simp) ho
    · exact hu.2 i blk (by rw [get_set hid]; simp [he, hi]) ho
  · intro hu
    refine ⟨hu.1, fun i blk hi ho => ?_⟩
    rw [get_set hid] at hi
    split at hi
    · rename_i he; subst he; simp at hi; subst hi
      exact hu.2 i (.map es) hg ho
    · exact hu.2 i blk hi ho

theorem writeMap_sound (hr : HRel g h W) {id r x z : Nat} {es es' : List (AV × AV)} (hg : h.get id = some (.map es)) (hm : g.mb id = some (r, x, z)) {arr arr' : Array MapEntry} {cl cl' : Nat}
    (hh : W.heap[r]? = some (.map arr cl)) (refs : List Nat) (hrel : EntR g W (U g h) es' arr')
    (hesc : ∀ q ∈ (es'.flatMap fun e => e.2.refs), q ∈ (es.flatMap fun e => e.2.refs) ∨ q ∈ refs) :
    HRel g ((h.set id (.map es')).note id refs) (putBlock W r (.map arr' cl')) ∧ Ext g h W g ((h.set id (.map es')).note id refs) (putBlock W r (.map arr' cl')) := by
  have hid := get_lt hg
  have hrb : r < W.heap.size := Nat.lt_of_not_le fun hle => by simp [Array.getElem?_eq_none hle] at hh
  have hU : U g ((h.set id (.map es')).note id refs) = U g h := U_map (es' := es') hg
  have hne : ∀ b o, U g h b o → b ≠ r := fun b o hu e => hu.2 id _ hg ⟨r, x, z, hm, e, trivial⟩
  have hcell : ∀ b o v, U g h b o → W.cell? ⟨b, o, none⟩ = some v → (putBlock W r (.map arr' cl')).cell? ⟨b, o, none⟩ = some v := by
    intro b o v hu hc
    have := get_putBlock (W := W) (o := .map arr' cl') hrb b
    simp only [hne b o hu, if_false] at this
    unfold World.cell? at hc ⊢
    simp only [this]
    exact hc
  have hk : Keeps W (U g h) (putBlock W r (.map arr' cl')) (U g ((h.set id (.map es')).note id refs)) := fun b o v hu hc => ⟨by rw [hU]; exact hu, hcell b o v hu hc⟩
  refine ⟨⟨fun i hi => hr.dom i (by simpa [AH.note, AH.set] using hi), ?_, ?_, ?_, fun b hb => by simpa [putBlock] using hr.res b hb, ?_, fun p hp => hk _ _ _ (hr.gl p hp).1 (hr.gl p hp).2⟩, ⟨rfl, rfl, rfl, by simp [putBlock], GLe.refl g, fun b o _ hu => by rw [hU]; exact hu, hcell, fun b hb hu => ?_, rfl, fun b hb => ?_⟩⟩
  · intro i b hi
    have hi' : (h.set id (.map es')).get i = some b := hi
    rw [get_set hid] at hi'
    split at hi'
    · rename_i he; subst he; simp at hi'; subst hi'
      exact ⟨r, x, z, arr', cl', hm, by rw [get_putBlock hrb]; simp, hrel.1, fun j k v e h1 h2 => let ⟨⟨q, a⟩, b⟩ := hrel.2 j k v e h1 h2; ⟨⟨q, a.mono hk (GLe.refl g)⟩, b.mono hk (GLe.refl g)⟩⟩
    · rename_i he
      refine (hr.blk i b hi').mono hk (GLe.refl g) fun r' x' z' hm' => ?_
      rw [get_putBlock hrb]
      have : r' ≠ r := hr.apart i id b _ r' x' z' r x z he hi' hg hm' hm
      simp [this]
  · intro i j bi bj ri xi zi rj xj zj hij hi hj hmi hmj
    have hi' : (h.set id (.map es')).get i = some bi := hi
    have hj' : (h.set id (.map es')).get j = some bj := hj
    rw [get_set hid] at hi' hj'
    have f : ∀ {k : Nat} {bk : ABlk}, (if k = id then some (ABlk.map es') else h.get k) = some bk → ∃ bk', h.get k = some bk' := by
      intro k bk hk
      split at hk
      · rename_i e; subst e; exact ⟨_, hg⟩
      · exact ⟨_, hk⟩
    obtain ⟨bi', hi''⟩ := f hi'
    obtain ⟨bj', hj''⟩ := f hj'
    exact hr.apart i j bi' bj' ri xi zi rj xj zj hij hi'' hj'' hmi hmj
  · intro i b hi q hq
    have hi' : (h.set id (.map es')).get i = some b := hi
    rw [get_set hid] at hi'
    simp only [AH.note, AH.set, List.mem_append]
    split at hi'
    · rename_i he; subst he; simp at hi'; subst hi'
      rcases hesc q hq with h1 | h1
      · exact (hr.esc i _ hg q h1).imp (fun x => x) .inr
      · by_cases hlt : i < q
        · exact .inr (.inl (List.mem_map.2 ⟨q, List.mem_filter.2 ⟨h1, by simpa using hlt⟩, rfl⟩))
        · exact .inl (by omega)
    · exact (hr.esc i b hi' q hq).imp (fun x => x) .inr
  · intro i b r' x' z' hi hmi
    have hi' : (h.set id (.map es')).get i = some b := hi
    rw [get_set hid] at hi'
    split at hi'
    · rename_i he; subst he; exact hr.own i _ r' x' z' hg hmi
    · exact hr.own i b r' x' z' hi' hmi
  · have hb' : b ≠ r := hne b 0 (hu 0)
    rw [get_putBlock hrb]; simp [hb']
  · have hb' : b ≠ r := fun e => hr.own id _ r x z hg hm (e ▸ hb)
    rw [get_putBlock hrb]; simp [hb']

theorem kv_same {k x : AV} {a b : Value} (h : keyEq k x = some true) (ha : KV k a) (hb : KV x b) : a = b := by
  unfold keyEq at h
  split at h
  · simp only [KV] at ha hb; subst ha; subst hb
    split at h
    · rename_i e; subst e; simp at h; subst h; rfl
    · cases h
  · simp at h; subst h
    obtain ⟨x, rfl, h1⟩ := ha
    obtain ⟨y, rfl, h2⟩ := hb
    have := bytesOf_inj.1 (h1.trans h2.symm)
    congr 1
    cases x; cases y
    simp only [ByteArray.mk.injEq]
    exact Array.toList_inj.1 this
  · simp only [KV] at ha hb; subst ha; subst hb
    split at h
    · rename_i e; obtain ⟨rfl, rfl⟩ := e; simp at h; obtain ⟨rfl, rfl⟩ := h; rfl
    · cases h
  · cases h

theorem run_stays {k : AV} {v : Value} {kk : Nat} (hk : keyIs kk k = true) (hkv : KV k v) : (Instr.keyThatStays v v).run P W = .ok v W := by
  have : Instr.sameBits 10000 v v = true := by
    unfold keyIs at hk
    split at hk
    · simp only [KV] at hkv; subst hkv; simp [Instr.sameBits]
    · obtain ⟨b, rfl, _⟩ := hkv; simp [Instr.sameBits, MapKept.bytes_beq]
    · simp only [KV] at hkv; subst hkv; simp [Instr.sameBits]
    · cases hk
  simp [Instr.keyThatStays, this]

theorem key_refs {kk : Nat} {k : AV} (hk : keyIs kk k = true) : k.refs = [] := by
  unfold keyIs at hk
  split at hk <;> first | rfl | cases hk

theorem mapset_sound (hr : HRel g h W) {kk : Nat} {t : TypeId} (ht : mapT P kk t = true) {id : Nat} {k v : AV} {mv kv vv : Value} (hx : VRel g W (U g h) (.map id) mv) (hkr : VRel g W (U g h) k kv) (hk : keyIs kk k = true) (hv : VRel g W (U g h) v vv)
    {es es' : List (AV × AV)} (hg : h.get id = some (.map es)) (hs : setKeyA k v es = some es') :
    ∃ W', (Instr.mapUpdate t mv kv vv).run P W = .ok () W' ∧ HRel g ((h.set id (.map es')).note id v.refs) W' ∧ Ext g h W g ((h.set id (.map es')).note id v.refs) W' := by
  unfold mapT at ht
  split at ht
  · rename_i kt et hu
    have hkv := kv_of hk hkr
    obtain ⟨r0, x0, z0, hm, rfl⟩ := inv_map hx
    obtain ⟨r1, x1, z1, arr, cl, hm1, hh, hsz, hrel⟩ := hr.blk id _ hg
    rw [hm] at hm1; simp at hm1; obtain ⟨rfl, rfl, rfl⟩ := hm1
    obtain ⟨rr, hfk⟩ := set_find hs
    have hget : (getObj r0).run P W = .ok (.map arr cl) W := by simp [getObj, Sem.run, hh]
    rcases find_sound (P := P) (g := g) (W := W) (V := U g h) ht hk hkv ⟨hsz, hrel⟩ hfk with ⟨rfl, hf, h2⟩ | ⟨j, x, y, e, rfl, h2, h3, h4, h5, hf, h6⟩
    · have := h2 v
      rw [hs] at this; simp at this; subst this
      have hrun : (Instr.mapUpdate t (.map (some r0)) kv vv).run P W = .ok () (putBlock W r0 (.map (arr.push { key := kv, val := vv, born := cl }) (cl + 1))) := by
        unfold Instr.mapUpdate
        rw [Sem.run_bind, run_underlying hu]
        simp only [Result.andThen_ok, Sem.run_bind, hget, run_check ht hk hkv, hf]
        exact MapKept.run_setObj_map _ hh
      obtain ⟨w1, w2⟩ := writeMap_sound hr (es' := es ++ [(k, v)]) hg hm hh (arr' := arr.push { key := kv, val := vv, born := cl }) (cl' := cl + 1) v.refs
        ⟨by simp [hsz], fun i k' v' e h1 h2 => by
          rw [List.getElem?_append] at h1
          rw [Array.getElem?_push] at h2
          split at h1
          · rename_i hlt
            have : i ≠ arr.size := by omega
            simp only [this, if_false] at h2
            exact hrel i k' v' e h1 h2
          · rename_i hge
            have hi : i = es.length := by
              have := (List.getElem?_eq_some_iff.1 h1).1
              simp at this; omega
            subst hi
            simp [hsz] at h1 h2
            obtain ⟨rfl, rfl⟩ := h1
            subst h2
            exact ⟨⟨key_refs hk, hkr⟩, hv⟩⟩ (fun q hq => by
          rw [List.flatMap_append, List.mem_append] at hq
          rcases hq with hq | hq
          · exact .inl hq
          · exact .inr (by simpa using hq))
      exact ⟨_, hrun, w1, w2⟩
    · have := h6 v
      rw [hs] at this; simp at this; subst this
      have hsame := kv_same h4 hkv h5
      have hjs : j < arr.size := (Array.getElem?_eq_some_iff.1 h3).1
      have hej : arr[j] = e := (Array.getElem?_eq_some_iff.1 h3).2
      have hrun : (Instr.mapUpdate t (.map (some r0)) kv vv).run P W = .ok () (putBlock W r0 (.map (arr.modify j fun e => { e with key := kv, val := vv }) cl)) := by
        unfold Instr.mapUpdate
        rw [Sem.run_bind, run_underlying hu]
        have hst : (Instr.keyThatStays e.key kv).run P W = .ok kv W := by rw [← hsame]; exact run_stays hk hkv
        simp only [Result.andThen_ok, Sem.run_bind, hget, run_check ht hk hkv, hf, h3, Option.map_some, Option.getD_some, hst]
        exact MapKept.run_setObj_map _ hh
      obtain ⟨w1, w2⟩ := writeMap_sound hr (es' := es.set j (x, v)) hg hm hh (arr' := arr.modify j fun e => { e with key := kv, val := vv }) (cl' := cl) v.refs
        ⟨by simp [hsz], fun i k' v' e' h1 h2 => by
          rw [List.getElem?_set] at h1
          rw [Array.getElem?_modify] at h2
          by_cases hij : j = i
          · subst hij
            have hjl : j < es.length := by omega
            simp [hjl, h3] at h1 h2
            obtain ⟨rfl, rfl⟩ := h1
            subst h2
            refine ⟨⟨(hrel j x y e h2 h3).1.1, ?_⟩, hv⟩
            show VRel g W (U g h) x kv
            rw [hsame]
            exact (hrel j x y e h2 h3).1.2
          · simp only [hij, if_false] at h1 h2
            exact hrel i k' v' e' h1 h2⟩ (fun q hq => by
          obtain ⟨p, hp, hq'⟩ := List.mem_flatMap.1 hq
          rcases List.mem_or_eq_of_mem_set hp with h7 | h7
          · exact .inl (List.mem_flatMap.2 ⟨p, h7, hq'⟩)
          · subst h7; exact .inr hq')
      exact ⟨_, hrun, w1, w2⟩
  · cases ht

end
end Go.Proofs.YtfahpmlckobpmaaGreatDoor.Pi
