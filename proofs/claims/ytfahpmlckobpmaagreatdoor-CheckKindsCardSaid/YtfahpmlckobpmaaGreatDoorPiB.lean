/-
  What the program's own variables hold, and nobody changes: (the variable's number, its value).
-/
import GoSem.Dispatch
import Derived.Test.YtfahpmlckobpmaaGreatDoorPiA
import Derived.Below
import Derived.Orders
import Derived.Laws.Sem
import Derived.Laws.World
import Derived.Laws.Cells
import Derived.Laws.Rows
set_option linter.unusedSimpArgs false
set_option linter.unusedVariables false
set_option linter.unusedSectionVars false
namespace Go.Proofs.YtfahpmlckobpmaaGreatDoor.Pi
open Go
def GL : List (Nat × Value) := [(0, .iface 260 (.agg #[.pointer (some ⟨2, 33, none⟩)]))]
end Go.Proofs.YtfahpmlckobpmaaGreatDoor.Pi
/-
  How abstract values and blocks lie in the model's memory: by value ('PRel': cells that nobody writes any more), by number ('VRel'), the blocks ('HRel'), and what a run leaves as it was ('Ext').
-/
namespace Go.Proofs.YtfahpmlckobpmaaGreatDoor.Pi
open Go

/-- where a numbered block lies: the model's block, the cell at which it begins, the cells of an element; how many elements one that grows bears -/
structure G where
  mb : Nat → Option (Nat × Nat × Nat)
  cp : Nat → Nat
  /-- blocks that are kept for a number to come -/
  rs : Nat → Prop

def ownBlk (g : G) (id : Nat) (blk : ABlk) (b o : Nat) : Prop :=
  ∃ r x z, g.mb id = some (r, x, z) ∧ b = r ∧ (match blk with | .grow _ front => x + front * z ≤ o | _ => True)

/-- cells that belong to no block of the run's own -/
def U (g : G) (h : AH) (b o : Nat) : Prop := ¬ g.rs b ∧ ∀ id blk, h.get id = some blk → ¬ ownBlk g id blk b o

def bytesOf (s : ByteArray) : List Nat := s.data.toList.map UInt8.toNat

inductive PRel (W : World) (V : Nat → Nat → Prop) : AV → Value → Prop
  | bool (b : Bool) : PRel W V (.bool b) (.bool b)
  | int (k : IntKind) (n : Int) : PRel W V (.int k n) (.int k n)
  | str (s : ByteArray) : PRel W V (.str (bytesOf s)) (.string s)
  | nilp : PRel W V .nilp (.pointer none)
  | nilm : PRel W V .nilm (.map none)
  | nilf : PRel W V .nilf .nilFunc
  | nili : PRel W V .nili .nilIface
  | ref (b off : Nat) (cells : List AV) (val : Nat → Value)
      (h1 : ∀ (i : Nat) (av : AV), cells[i]? = some av → V b (off + i) ∧ W.cell? ⟨b, off + i, none⟩ = some (val i))
      (h2 : ∀ (i : Nat) (av : AV), cells[i]? = some av → PRel W V av (val i)) : PRel W V (.ref cells) (.pointer (some ⟨b, off, none⟩))
  | vs (b off z cap : Nat) (elems : List (List AV)) (val : Nat → Nat → Value) (hcap : elems.length ≤ cap) (hz : ∀ e ∈ elems, e.length = z)
      (h1 : ∀ (i : Nat) (e : List AV) (j : Nat) (av : AV), elems[i]? = some e → e[j]? = some av → V b (off + i * z + j) ∧ W.cell? ⟨b, off + i * z + j, none⟩ = some (val i j))
      (h2 : ∀ (i : Nat) (e : List AV) (j : Nat) (av : AV), elems[i]? = some e → e[j]? = some av → PRel W V av (val i j)) : PRel W V (.vs elems .shared) (.slice (some ⟨b, off, none⟩) elems.length cap)
  | vs0 (a : Option Addr) (cap : Nat) : PRel W V (.vs [] .shared) (.slice a 0 cap)
  | iface (t : Nat) (av : AV) (v : Value) : PRel W V av v → PRel W V (.iface t av) (.iface t v)
  | fn (f : Nat) (a b : List AV) (x y : Array Value) (ha : a.length = x.size) (hb : b.length = y.size)
      (h1 : ∀ (i : Nat) (av : AV) (v : Value), a[i]? = some av → x[i]? = some v → PRel W V av v) (h2 : ∀ (i : Nat) (av : AV) (v : Value), b[i]? = some av → y[i]? = some v → PRel W V av v) :
      PRel W V (.fn f a b) (.func (.func f) x y)

inductive VRel (g : G) (W : World) (V : Nat → Nat → Prop) : AV → Value → Prop
  | any (v : Value) : VRel g W V .any v
  | pure (av : AV) (v : Value) (h : PRel W V av v) : VRel g W V av v
  | ref (b off : Nat) (cells : List AV) (val : Nat → Value) (hc : ∀ av ∈ cells, av.isCell = true)
      (h1 : ∀ (i : Nat) (av : AV), cells[i]? = some av → V b (off + i) ∧ W.cell? ⟨b, off + i, none⟩ = some (val i))
      (h2 : ∀ (i : Nat) (av : AV), cells[i]? = some av → VRel g W V av (val i)) : VRel g W V (.ref cells) (.pointer (some ⟨b, off, none⟩))
  | ptr (id row off r x z : Nat) (h : g.mb id = some (r, x, z)) : VRel g W V (.ptr id row off) (.pointer (some ⟨r, x + row * z + off, none⟩))
  | ms (id s n cap r x z : Nat) (a : Option Addr) (hcap : n ≤ cap) (h : g.mb id = some (r, x, z)) (ha : (a = some ⟨r, x + s * z, none⟩ ∧ s + cap ≤ g.cp id) ∨ (n = 0 ∧ cap = 0)) : VRel g W V (.ms id s n) (.slice a n cap)
  | vsx (e : List (List AV)) (a : Option Addr) (n : Nat) (h : PRel W V (.vs e .shared) (.slice a n n)) : VRel g W V (.vs e .exact) (.slice a n n)
  | vsg (e : List (List AV)) (id s r x z n cap : Nat) (h : PRel W V (.vs e .shared) (.slice (some ⟨r, x + s * z, none⟩) n cap)) (hz : ∀ x ∈ e, x.length = z)
      (hg : g.mb id = some (r, x, z)) (hc : cap + s = g.cp id) : VRel g W V (.vs e (.grow id s)) (.slice (some ⟨r, x + s * z, none⟩) n cap)
  | map (id r x z : Nat) (h : g.mb id = some (r, x, z)) : VRel g W V (.map id) (.map (some r))
  | iface (t : Nat) (av : AV) (v : Value) : VRel g W V av v → VRel g W V (.iface t av) (.iface t v)
  | fn (f : Nat) (a b : List AV) (x y : Array Value) (ha : a.length = x.size) (hb : b.length = y.size)
      (h1 : ∀ (i : Nat) (av : AV) (v : Value), a[i]? = some av → x[i]? = some v → VRel g W V av v) (h2 : ∀ (i : Nat) (av : AV) (v : Value), b[i]? = some av → y[i]? = some v → VRel g W V av v) :
      VRel g W V (.fn f a b) (.func (.func f) x y)
  | agg (a : List AV) (x : Array Value) (hc : ∀ av ∈ a, av.isCell = true) (ha : a.length = x.size) (h : ∀ (i : Nat) (av : AV) (v : Value), a[i]? = some av → x[i]? = some v → VRel g W V av v) : VRel g W V (.agg a) (.agg x)
  | tup (a : List AV) (x : Array Value) (ha : a.length = x.size) (h : ∀ (i : Nat) (av : AV) (v : Value), a[i]? = some av → x[i]? = some v → VRel g W V av v) : VRel g W V (.tup a) (.tuple x)

/-- what was there by value stays so -/
def Keeps (W : World) (V : Nat → Nat → Prop) (W' : World) (V' : Nat → Nat → Prop) : Prop :=
  ∀ b o v, V b o → W.cell? ⟨b, o, none⟩ = some v → V' b o ∧ W'.cell? ⟨b, o, none⟩ = some v

def GLe (g g' : G) : Prop := ∀ id x, g.mb id = some x → g'.mb id = some x ∧ g'.cp id = g.cp id

theorem Keeps.refl (W : World) (V : Nat → Nat → Prop) : Keeps W V W V := fun _ _ _ h1 h2 => ⟨h1, h2⟩
theorem Keeps.trans {W W' W'' : World} {V V' V'' : Nat → Nat → Prop} (h : Keeps W V W' V') (h' : Keeps W' V' W'' V'') : Keeps W V W'' V'' :=
  fun b o v h1 h2 => let ⟨a, c⟩ := h b o v h1 h2; h' b o v a c
theorem GLe.refl (g : G) : GLe g g := fun _ _ h => ⟨h, rfl⟩
theorem GLe.trans {a b c : G} (h : GLe a b) (k : GLe b c) : GLe a c := fun i x hx => let ⟨a, b⟩ := h i x hx; let ⟨c, d⟩ := k i x a; ⟨c, d.trans b⟩

theorem PRel.mono {W W' : World} {V V' : Nat → Nat → Prop} (hk : Keeps W V W' V') {a : AV} {v : Value} (h : PRel W V a v) : PRel W' V' a v := by
  induction h with
  | bool b => exact .bool b
  | int k n => exact .int k n
  | str s => exact .str s
  | nilp => exact .nilp
  | nilm => exact .nilm
  | nilf => exact .nilf
  | nili => exact .nili
  | ref b off cells val h1 _ ih => exact .ref b off cells val (fun i av hi => hk _ _ _ (h1 i av hi).1 (h1 i av hi).2) ih
  | vs b off z cap elems val hcap hz h1 _ ih => exact .vs b off z cap elems val hcap hz (fun i e j av hi hj => hk _ _ _ (h1 i e j av hi hj).1 (h1 i e j av hi hj).2) ih
  | vs0 a cap => exact .vs0 a cap
  | iface t av v _ ih => exact .iface t av v ih
  | fn f a b x y ha hb _ _ ih1 ih2 => exact .fn f a b x y ha hb ih1 ih2

theorem VRel.mono {g g' : G} {W W' : World} {V V' : Nat → Nat → Prop} (hk : Keeps W V W' V') (hg : GLe g g') {a : AV} {v : Value} (h : VRel g W V a v) : VRel g' W' V' a v := by
  induction h with
  | any v => exact .any v
  | pure av v h => exact .pure _ _ (h.mono hk)
  | ref b off cells val hc h1 _ ih => exact .ref b off cells val hc (fun i av hi => hk _ _ _ (h1 i av hi).1 (h1 i av hi).2) ih
  | ptr id row off r x z h => exact .ptr id row off r x z (hg _ _ h).1
  | ms id s n cap r x z a hc h ha => exact .ms id s n cap r x z a hc (hg _ _ h).1 (by rw [(hg _ _ h).2]; exact ha)
  | vsx e a n h => exact .vsx e a n (h.mono hk)
  | vsg e id s r c z n cap h hz hgg hc => exact .vsg e id s r c z n cap (h.mono hk) hz (hg _ _ hgg).1 (by rw [(hg _ _ hgg).2]; exact hc)
  | map id r x z h => exact .map id r x z (hg _ _ h).1
  | iface t av v _ ih => exact .iface t av v ih
  | fn f a b x y ha hb _ _ ih1 ih2 => exact .fn f a b x y ha hb ih1 ih2
  | agg a x hc ha _ ih => exact .agg a x hc ha ih
  | tup a x ha _ ih => exact .tup a x ha ih

theorem mem_refsL {a : List AV} {i : Nat} {av : AV} (h : a[i]? = some av) {r : Nat} (hr : r ∈ av.refs) : r ∈ refsL a := by
  induction a generalizing i with
  | nil => simp at h
  | cons x a ih =>
    simp only [refsL, List.mem_append]
    cases i with
    | zero => simp at h; subst h; exact .inl hr
    | succ i => exact .inr (ih (by simpa using h))

/-- without the younger blocks' numbers -/
theorem VRel.narrow {g g' : G} {W : World} {V : Nat → Nat → Prop} {n : Nat} (hg : ∀ id x, id < n → g'.mb id = some x → g.mb id = some x ∧ g.cp id = g'.cp id) {a : AV} {v : Value} (h : VRel g' W V a v) :
    (∀ r ∈ a.refs, r < n) → VRel g W V a v := by
  induction h with
  | any v => exact fun _ => .any v
  | pure av v h => exact fun _ => .pure _ _ h
  | ref b off cells val hc h1 _ ih => exact fun hr => .ref b off cells val hc h1 (fun i av hi => ih i av hi fun r h => hr r (by simpa [AV.refs] using mem_refsL hi h))
  | ptr id row off r x z h => exact fun hr => .ptr id row off r x z (hg _ _ (hr id (by simp [AV.refs])) h).1
  | ms id s n cap r x z a hc h ha => exact fun hr => let ⟨h1, h2⟩ := hg _ _ (hr id (by simp [AV.refs])) h; .ms id s n cap r x z a hc h1 (by rw [h2]; exact ha)
  | vsx e a n h => exact fun _ => .vsx e a n h
  | vsg e id s r c z n cap h hz hgg hc => exact fun hr => let ⟨h1, h2⟩ := hg _ _ (hr id (by simp [AV.refs])) hgg; .vsg e id s r c z n cap h hz h1 (by rw [h2]; exact hc)
  | map id r x z h => exact fun hr => .map id r x z (hg _ _ (hr id (by simp [AV.refs])) h).1
  | iface t av v _ ih => exact fun hr => .iface t av v (ih fun r h => hr r (by simpa [AV.refs] using h))
  | fn f a b x y ha hb _ _ ih1 ih2 =>
    exact fun hr => .fn f a b x y ha hb (fun i av v h1 h2 => ih1 i av v h1 h2 fun r h => hr r (by simp only [AV.refs, List.mem_append]; exact .inl (mem_refsL h1 h)))
      (fun i av v h1 h2 => ih2 i av v h1 h2 fun r h => hr r (by simp only [AV.refs, List.mem_append]; exact .inr (mem_refsL h1 h)))
  | agg a x hc ha _ ih => exact fun hr => .agg a x hc ha fun i av v h1 h2 => ih i av v h1 h2 fun r h => hr r (by simpa [AV.refs] using mem_refsL h1 h)
  | tup a x ha _ ih => exact fun hr => .tup a x ha fun i av v h1 h2 => ih i av v h1 h2 fun r h => hr r (by simpa [AV.refs] using mem_refsL h1 h)

theorem pureL_get {a : List AV} (hp : pureL a = true) {i : Nat} {av : AV} (h : a[i]? = some av) : av.pure = true := by
  induction a generalizing i with
  | nil => simp at h
  | cons x a ih =>
    simp only [pureL, Bool.and_eq_true] at hp
    cases i with
    | zero => simp at h; subst h; exact hp.1
    | succ i => exact ih hp.2 (by simpa using h)

theorem VRel.toP {g : G} {W : World} {V : Nat → Nat → Prop} {a : AV} {v : Value} (h : VRel g W V a v) : a.pure = true → PRel W V a v := by
  induction h with
  | any v => intro hp; simp [AV.pure] at hp
  | pure av v h => exact fun _ => h
  | ref b off cells val hc h1 _ ih => exact fun hp => .ref b off cells val h1 fun i av hi => ih i av hi (pureL_get (by simpa [AV.pure] using hp) hi)
  | ptr id row off r x z h => intro hp; simp [AV.pure] at hp
  | ms id s n cap r x z a hc h ha => intro hp; simp [AV.pure] at hp
  | vsx e a n h => intro hp; simp [AV.pure] at hp
  | vsg e id s r c z n cap h hz hgg hc => intro hp; simp [AV.pure] at hp
  | map id r x z h => intro hp; simp [AV.pure] at hp
  | iface t av v _ ih => exact fun hp => .iface t av v (ih (by simpa [AV.pure] using hp))
  | fn f a b x y ha hb _ _ ih1 ih2 =>
    intro hp
    simp only [AV.pure, Bool.and_eq_true] at hp
    exact .fn f a b x y ha hb (fun i av v h1 h2 => ih1 i av v h1 h2 (pureL_get hp.1 h1)) (fun i av v h1 h2 => ih2 i av v h1 h2 (pureL_get hp.2 h1))
  | agg a x hc ha _ ih => intro hp; simp [AV.pure] at hp
  | tup a x ha _ ih => intro hp; simp [AV.pure] at hp

theorem PRel.cell {W : World} {V : Nat → Nat → Prop} {a : AV} {v : Value} (h : PRel W V a v) : a.isCell = true := by cases h <;> rfl

theorem VRel.strip {g : G} {W : World} {V : Nat → Nat → Prop} {a : AV} {v : Value} (h : VRel g W V a v) : VRel g W V a.strip v := by
  cases h with
  | pure av v h => cases h <;> exact .pure _ _ (by constructor <;> assumption)
  | vsx e a n h => exact .pure _ _ h
  | vsg e id s r c z n cap h hz hgg hc => exact .pure _ _ h
  | any v => exact .any v
  | ref b off cells val hc h1 h2 => exact .ref b off cells val hc h1 h2
  | ptr id row off r x z h => exact .ptr id row off r x z h
  | ms id s n cap r x z a hc h ha => exact .ms id s n cap r x z a hc h ha
  | map id r x z h => exact .map id r x z h
  | iface t av v h => exact .iface t av v h
  | fn f a b x y ha hb h1 h2 => exact .fn f a b x y ha hb h1 h2
  | agg a x hc ha h => exact .agg a x hc ha h
  | tup a x ha h => exact .tup a x ha h

def blkRefs : ABlk → List Nat
  | .rows _ rs => rs.flatMap refsL
  | .map es => es.flatMap fun e => e.2.refs
  | .grow _ _ => []

def BRel (g : G) (W : World) (V : Nat → Nat → Prop) (id : Nat) : ABlk → Prop
  | .rows z rs => ∃ r x c t, g.mb id = some (r, x, z) ∧ W.heap[r]? = some (.cells c t (0, 0)) ∧ x + g.cp id * z ≤ c.size ∧
      ∀ (row : Nat) (e : List AV), rs[row]? = some e → (e.length = z ∧ ∀ av ∈ e, av.isCell = true) ∧ ∀ (j : Nat) (av : AV), e[j]? = some av → ∃ v, c[x + row * z + j]? = some v ∧ VRel g W V av v
  | .map es => ∃ r x z arr clock, g.mb id = some (r, x, z) ∧ W.heap[r]? = some (.map arr clock) ∧ arr.size = es.length ∧
      ∀ (i : Nat) (k v : AV) (e : MapEntry), es[i]? = some (k, v) → arr[i]? = some e → (k.refs = [] ∧ VRel g W V k e.key) ∧ VRel g W V v e.val
  | .grow z f => ∃ r x cells t, g.mb id = some (r, x, z) ∧ W.heap[r]? = some (.cells cells t (0, 0)) ∧ f ≤ g.cp id ∧ x + g.cp id * z = cells.size

structure HRel (g : G) (h : AH) (W : World) : Prop where
  dom : ∀ id, h.bl.length ≤ id → g.mb id = none
  blk : ∀ id b, h.get id = some b → BRel g W (U g h) id b
  apart : ∀ (i j : Nat) (bi bj : ABlk) (ri xi zi rj xj zj : Nat), i ≠ j → h.get i = some bi → h.get j = some bj → g.mb i = some (ri, xi, zi) → g.mb j = some (rj, xj, zj) → ri ≠ rj
  esc : ∀ id b, h.get id = some b → ∀ r ∈ blkRefs b, r ≤ id ∨ (id, r) ∈ h.esc
  res : ∀ b, g.rs b → b < W.heap.size
  own : ∀ (id : Nat) (b : ABlk) (r x z : Nat), h.get id = some b → g.mb id = some (r, x, z) → ¬ g.rs r
  gl : ∀ p ∈ GL, U g h p.1 0 ∧ W.cell? ⟨p.1, 0, none⟩ = some p.2

structure Ext (g : G) (h : AH) (W : World) (g' : G) (h' : AH) (W' : World) : Prop where
  os : W'.os = W.os
  tape : W'.tape = W.tape
  output : W'.output = W.output
  size : W.heap.size ≤ W'.heap.size
  gle : GLe g g'
  free : ∀ b o, b < W.heap.size → U g h b o → U g' h' b o
  cell : ∀ b o v, U g h b o → W.cell? ⟨b, o, none⟩ = some v → W'.cell? ⟨b, o, none⟩ = some v
  obj : ∀ b, b < W.heap.size → (∀ o, U g h b o) → W'.heap[b]? = W.heap[b]?
  rs : g'.rs = g.rs
  kept : ∀ b, g.rs b → W'.heap[b]? = W.heap[b]?

theorem lt_of_cell {W : World} {b o : Nat} {v : Value} (h : W.cell? ⟨b, o, none⟩ = some v) : b < W.heap.size := World.block_lt_of_cell? _ _ h

theorem Ext.refl (g : G) (h : AH) (W : World) : Ext g h W g h W :=
  ⟨rfl, rfl, rfl, Nat.le_refl _, GLe.refl _, fun _ _ _ h => h, fun _ _ _ _ h => h, fun _ _ _ => rfl, rfl, fun _ _ => rfl⟩

theorem Ext.trans {g g' g'' : G} {h h' h'' : AH} {W W' W'' : World} (a : Ext g h W g' h' W') (b : Ext g' h' W' g'' h'' W'') : Ext g h W g'' h'' W'' :=
  ⟨b.os.trans a.os, b.tape.trans a.tape, b.output.trans a.output, Nat.le_trans a.size b.size, a.gle.trans b.gle,
   fun x o hx hu => b.free x o (Nat.lt_of_lt_of_le hx a.size) (a.free x o hx hu),
   fun x o v hu hc => b.cell x o v (a.free x o (lt_of_cell hc) hu) (a.cell x o v hu hc),
   fun x hx hu => (b.obj x (Nat.lt_of_lt_of_le hx a.size) fun o => a.free x o hx (hu o)).trans (a.obj x hx hu),
   b.rs.trans a.rs, fun x hx => (b.kept x (by rw [a.rs]; exact hx)).trans (a.kept x hx)⟩

theorem Ext.keeps {g g' : G} {h h' : AH} {W W' : World} (a : Ext g h W g' h' W') : Keeps W (U g h) W' (U g' h') :=
  fun b o v hu hc => ⟨a.free b o (lt_of_cell hc) hu, a.cell b o v hu hc⟩

theorem VRel.ext {g g' : G} {h h' : AH} {W W' : World} (e : Ext g h W g' h' W') {a : AV} {v : Value} (r : VRel g W (U g h) a v) : VRel g' W' (U g' h') a v :=
  r.mono e.keeps e.gle

def FRel (g : G) (h : AH) (W : World) (fr : Fr) (tmps : Array Value) : Prop := ∀ i, VRel g W (U g h) (fget fr i) (tmps.getD i undef)

theorem FRel.ext {g g' : G} {h h' : AH} {W W' : World} (e : Ext g h W g' h' W') {fr : Fr} {t : Array Value} (r : FRel g h W fr t) : FRel g' h' W' fr t := fun i => (r i).ext e

theorem FRel.keep {g : G} {h : AH} {W : World} {fr : Fr} {t : Array Value} (r : FRel g h W fr t) (keep : List Nat) : FRel g h W (keepFr keep fr) t := fun i => by
  have : fget (keepFr keep fr) i = if i ∈ keep then fget fr i else .any := by
    induction keep with
    | nil => simp [keepFr, fget]
    | cons x keep ih =>
      simp only [keepFr, List.map_cons, fget] at ih ⊢
      by_cases hx : x = i
      · subst hx; simp
      · simp only [hx, if_false, ih, List.mem_cons, Ne.symm hx, false_or]
  rw [this]
  split
  · exact r i
  · exact .any _

theorem FRel.put {g : G} {h : AH} {W : World} {fr : Fr} {a : Act} (r : FRel g h W fr a.tmps) {d : Option Nat} (hd : ∀ i, d = some i → i < a.tmps.size) {v : AV} {x : Value}
    (hv : VRel g W (U g h) v x) : FRel g h W (putFr fr d v) (a.put d x).tmps := by
  cases d with
  | none => exact r
  | some i =>
    intro j
    simp only [putFr, fget, Act.put]
    by_cases hij : i = j
    · subst hij
      simp only [if_true]
      have := hd i rfl
      simpa [this] using hv
    · simp only [hij, if_false]
      have := r j
      simpa [Array.getElem?_setIfInBounds_ne hij] using this

end Go.Proofs.YtfahpmlckobpmaaGreatDoor.Pi
/-
  Small laws: what a value must be of which an abstract one is known; constants; operands; a new block.
-/
namespace Go.Proofs.YtfahpmlckobpmaaGreatDoor.Pi
open Go

section
variable {g : G} {W : World} {V : Nat → Nat → Prop}

theorem inv_bool {b : Bool} {v : Value} (h : VRel g W V (.bool b) v) : v = .bool b := by
  cases h with
  | pure _ _ h => cases h; rfl
theorem inv_int {k : IntKind} {n : Int} {v : Value} (h : VRel g W V (.int k n) v) : v = .int k n := by
  cases h with
  | pure _ _ h => cases h; rfl
theorem inv_str {s : List Nat} {v : Value} (h : VRel g W V (.str s) v) : ∃ b, v = .string b ∧ bytesOf b = s := by
  cases h with
  | pure _ _ h => cases h; exact ⟨_, rfl, rfl⟩
theorem inv_nilp {v : Value} (h : VRel g W V .nilp v) : v = .pointer none := by
  cases h with
  | pure _ _ h => cases h; rfl
theorem inv_nilm {v : Value} (h : VRel g W V .nilm v) : v = .map none := by
  cases h with
  | pure _ _ h => cases h; rfl
theorem inv_nilf {v : Value} (h : VRel g W V .nilf v) : v = .nilFunc := by
  cases h with
  | pure _ _ h => cases h; rfl
theorem inv_nili {v : Value} (h : VRel g W V .nili v) : v = .nilIface := by
  cases h with
  | pure _ _ h => cases h; rfl
theorem inv_ref {cells : List AV} {v : Value} (h : VRel g W V (.ref cells) v) : ∃ (b off : Nat) (val : Nat → Value), v = .pointer (some ⟨b, off, none⟩) ∧ (∀ av ∈ cells, av.isCell = true) ∧
    (∀ (i : Nat) (av : AV), cells[i]? = some av → V b (off + i) ∧ W.cell? ⟨b, off + i, none⟩ = some (val i)) ∧ ∀ (i : Nat) (av : AV), cells[i]? = some av → VRel g W V av (val i) := by
  cases h with
  | pure _ _ h => cases h with
    | ref b off _ val h1 h2 => exact ⟨b, off, val, rfl, fun av hm => let ⟨i, hi⟩ := List.mem_iff_getElem?.1 hm; (h2 i av hi).cell, h1, fun i av hi => .pure _ _ (h2 i av hi)⟩
  | ref b off _ val hc h1 h2 => exact ⟨b, off, val, rfl, hc, h1, h2⟩
theorem inv_ptr {id row off : Nat} {v : Value} (h : VRel g W V (.ptr id row off) v) : ∃ r x z, g.mb id = some (r, x, z) ∧ v = .pointer (some ⟨r, x + row * z + off, none⟩) := by
  cases h with
  | pure _ _ h => cases h
  | ptr _ _ _ r x z h => exact ⟨r, x, z, h, rfl⟩
theorem inv_ms {id s n : Nat} {v : Value} (h : VRel g W V (.ms id s n) v) : ∃ r x z cap a, g.mb id = some (r, x, z) ∧ n ≤ cap ∧ v = .slice a n cap ∧ ((a = some ⟨r, x + s * z, none⟩ ∧ s + cap ≤ g.cp id) ∨ (n = 0 ∧ cap = 0)) := by
  cases h with
  | pure _ _ h => cases h
  | ms _ _ _ cap r x z a hc h ha => exact ⟨r, x, z, cap, a, h, hc, rfl, ha⟩
theorem inv_map {id : Nat} {v : Value} (h : VRel g W V (.map id) v) : ∃ r x z, g.mb id = some (r, x, z) ∧ v = .map (some r) := by
  cases h with
  | pure _ _ h => cases h
  | map _ r x z h => exact ⟨r, x, z, h, rfl⟩
theorem inv_vs {e : List (List AV)} {t : Tok} {v : Value} (h : VRel g W V (.vs e t) v) : PRel W V (.vs e .shared) v := by
  cases h with
  | pure _ _ h => cases h with
    | vs b off z cap _ val hc hz h1 h2 => exact .vs b off z cap _ val hc hz h1 h2
    | vs0 a cap => exact .vs0 a cap
  | vsx _ _ _ h => exact h
  | vsg _ _ _ _ _ _ _ _ h _ _ _ => exact h
theorem inv_iface {t : Nat} {av : AV} {v : Value} (h : VRel g W V (.iface t av) v) : ∃ x, v = .iface t x ∧ VRel g W V av x := by
  cases h with
  | pure _ _ h => cases h with
    | iface _ _ x h => exact ⟨x, rfl, .pure _ _ h⟩
  | iface _ _ x h => exact ⟨x, rfl, h⟩
theorem inv_agg {a : List AV} {v : Value} (h : VRel g W V (.agg a) v) : ∃ x : Array Value, v = .agg x ∧ (∀ av ∈ a, av.isCell = true) ∧ a.length = x.size ∧ ∀ (i : Nat) (av : AV) (v : Value), a[i]? = some av → x[i]? = some v → VRel g W V av v := by
  cases h with
  | pure _ _ h => cases h
  | agg _ x hc ha h => exact ⟨x, rfl, hc, ha, h⟩
theorem inv_tup {a : List AV} {v : Value} (h : VRel g W V (.tup a) v) : ∃ x : Array Value, v = .tuple x ∧ a.length = x.size ∧ ∀ (i : Nat) (av : AV) (v : Value), a[i]? = some av → x[i]? = some v → VRel g W V av v := by
  cases h with
  | pure _ _ h => cases h
  | tup _ x ha h => exact ⟨x, rfl, ha, h⟩
theorem inv_fn {f : Nat} {a b : List AV} {v : Value} (h : VRel g W V (.fn f a b) v) : ∃ x y : Array Value, v = .func (.func f) x y ∧ a.length = x.size ∧ b.length = y.size ∧
    (∀ (i : Nat) (av : AV) (v : Value), a[i]? = some av → x[i]? = some v → VRel g W V av v) ∧ ∀ (i : Nat) (av : AV) (v : Value), b[i]? = some av → y[i]? = some v → VRel g W V av v := by
  cases h with
  | pure _ _ h => cases h with
    | fn _ _ _ x y ha hb h1 h2 => exact ⟨x, y, rfl, ha, hb, fun i av v hi hj => .pure _ _ (h1 i av v hi hj), fun i av v hi hj => .pure _ _ (h2 i av v hi hj)⟩
  | fn _ _ _ x y ha hb h1 h2 => exact ⟨x, y, rfl, ha, hb, h1, h2⟩

/-- the slice behind a slice told by value -/
theorem inv_pvs {e : List (List AV)} {v : Value} (h : PRel W V (.vs e .shared) v) : (e = [] ∧ ∃ a cap, v = .slice a 0 cap) ∨
    ∃ b off z cap, v = .slice (some ⟨b, off, none⟩) e.length cap ∧ e.length ≤ cap ∧ (∀ x ∈ e, x.length = z) ∧
      ∀ (i : Nat) (c : List AV) (j : Nat) (av : AV), e[i]? = some c → c[j]? = some av → ∃ x, V b (off + i * z + j) ∧ W.cell? ⟨b, off + i * z + j, none⟩ = some x ∧ PRel W V av x := by
  cases h with
  | vs b off z cap _ val hc hz h1 h2 => exact .inr ⟨b, off, z, cap, rfl, hc, hz, fun i c j av hi hj => ⟨val i j, (h1 i c j av hi hj).1, (h1 i c j av hi hj).2, h2 i c j av hi hj⟩⟩
  | vs0 a cap => exact .inl ⟨rfl, a, cap, rfl⟩

/-- back: without a function that names the cells -/
theorem mk_pvs {e : List (List AV)} {b off z cap : Nat} (hcap : e.length ≤ cap) (hz : ∀ x ∈ e, x.length = z)
    (h : ∀ (i : Nat) (c : List AV) (j : Nat) (av : AV), e[i]? = some c → c[j]? = some av → ∃ x, V b (off + i * z + j) ∧ W.cell? ⟨b, off + i * z + j, none⟩ = some x ∧ PRel W V av x) :
    PRel W V (.vs e .shared) (.slice (some ⟨b, off, none⟩) e.length cap) := by
  refine .vs b off z cap e (fun i j => (W.cell? ⟨b, off + i * z + j, none⟩).getD undef) hcap hz (fun i c j av hi hj => ?_) (fun i c j av hi hj => ?_)
  · obtain ⟨x, h1, h2, _⟩ := h i c j av hi hj
    exact ⟨h1, by simp [h2]⟩
  · obtain ⟨x, _, h2, h3⟩ := h i c j av hi hj
    simpa [h2] using h3
theorem mk_ref {cells : List AV} {b off : Nat} (hc : ∀ av ∈ cells, av.isCell = true) (h : ∀ (i : Nat) (av : AV), cells[i]? = some av → ∃ x, V b (off + i) ∧ W.cell? ⟨b, off + i, none⟩ = some x ∧ VRel g W V av x) :
    VRel g W V (.ref cells) (.pointer (some ⟨b, off, none⟩)) := by
  refine .ref b off cells (fun i => (W.cell? ⟨b, off + i, none⟩).getD undef) hc (fun i av hi => ?_) (fun i av hi => ?_)
  · obtain ⟨x, h1, h2, _⟩ := h i av hi
    exact ⟨h1, by simp [h2]⟩
  · obtain ⟨x, _, h2, h3⟩ := h i av hi
    simpa [h2] using h3

end

/-! ### constants and operands -/
def cst1 : AV → Value → Bool
  | .bool a, .bool b => a == b
  | .int k a, .int l b => decide (k = l) && decide (a = b)
  | .str s, .string b => decide (bytesOf b = s)
  | .nilp, .pointer none => true
  | .nilm, .map none => true
  | .nilf, .nilFunc => true
  | .nili, .nilIface => true
  | .vs [] .exact, .slice none 0 0 => true
  | _, _ => false

def cstL (a : List AV) (x : List Value) : Bool := a.length == x.length && (a.zip x).all fun p => cst1 p.1 p.2

def cstOK : AV → Value → Bool
  | .agg a, .agg x => cstL a x.toList
  | a, x => cst1 a x

theorem cst1_rel {g : G} {W : World} {V : Nat → Nat → Prop} {a : AV} {v : Value} (h : cst1 a v = true) : VRel g W V a v := by
  unfold cst1 at h
  split at h
  · simp at h; subst h; exact .pure _ _ (.bool _)
  · simp at h; obtain ⟨rfl, rfl⟩ := h; exact .pure _ _ (.int _ _)
  · simp at h; subst h; exact .pure _ _ (.str _)
  · exact .pure _ _ .nilp
  · exact .pure _ _ .nilm
  · exact .pure _ _ .nilf
  · exact .pure _ _ .nili
  · exact .vsx [] none 0 (.vs0 _ _)
  · cases h

theorem cst1_cell {a : AV} {v : Value} (h : cst1 a v = true) : a.isCell = true := by
  unfold cst1 at h
  split at h <;> first | rfl | cases h
theorem cstL_cell {a : List AV} {x : List Value} (h : cstL a x = true) : ∀ av ∈ a, av.isCell = true := by
  simp only [cstL, Bool.and_eq_true, beq_iff_eq] at h
  intro av hm
  obtain ⟨i, hi⟩ := List.mem_iff_getElem?.1 hm
  have hx : ∃ v, x[i]? = some v := by
    have : i < x.length := by rw [← h.1]; exact (List.getElem?_eq_some_iff.1 hi).1
    exact ⟨_, List.getElem?_eq_getElem this⟩
  obtain ⟨v, hv⟩ := hx
  have hz : (av, v) ∈ a.zip x := by
    refine List.mem_of_getElem? (i := i) ?_
    rw [List.getElem?_zip_eq_some]
    exact ⟨hi, hv⟩
  exact cst1_cell (List.all_eq_true.1 h.2 _ hz)

theorem cstL_rel {g : G} {W : World} {V : Nat → Nat → Prop} : ∀ {a : List AV} {x : List Value}, cstL a x = true → a.length = x.length ∧ ∀ (i : Nat) (av : AV) (v : Value), a[i]? = some av → x[i]? = some v → VRel g W V av v := by
  intro a x h
  simp only [cstL, Bool.and_eq_true, beq_iff_eq] at h
  refine ⟨h.1, fun i av v h1 h2 => ?_⟩
  have hm : (av, v) ∈ a.zip x := by
    refine List.mem_of_getElem? (i := i) ?_
    rw [List.getElem?_zip_eq_some]
    exact ⟨h1, h2⟩
  exact cst1_rel (List.all_eq_true.1 h.2 _ hm)

theorem cstOK_rel {g : G} {W : World} {V : Nat → Nat → Prop} {a : AV} {v : Value} (h : cstOK a v = true) : VRel g W V a v := by
  unfold cstOK at h
  split at h
  · obtain ⟨h1, h2⟩ := cstL_rel (g := g) (W := W) (V := V) h
    exact .agg _ _ (cstL_cell h) (by simpa using h1) fun i av v hi hj => h2 i av v hi (by simpa using hj)
  · exact cst1_rel h

def chkOpd : Opd → Operand → Bool
  | .t i, .tmp j => i == j
  | .c v, .const c => cstOK v c
  | .c (.fn f [] []), .func k => f == k
  | _, _ => false

theorem chkOpd_rel {g : G} {h : AH} {W : World} {fr : Fr} {a : Act} (r : FRel g h W fr a.tmps) {x : Opd} {o : Operand} (hc : chkOpd x o = true) : VRel g W (U g h) (x.ev fr) (a.eval o) := by
  unfold chkOpd at hc
  split at hc
  · simp at hc; subst hc; exact r _
  · exact cstOK_rel hc
  · simp at hc; subst hc
    exact .pure _ _ (.fn _ [] [] #[] #[] rfl rfl (by simp) (by simp))
  · cases hc

/-! ### the memory grows -/
theorem U_new {g : G} {h : AH} {W : World} (r : HRel g h W) {b : Nat} (hb : W.heap.size ≤ b) (o : Nat) : U g h b o := by
  refine ⟨fun hrs => absurd (r.res b hrs) (by omega), ?_⟩
  intro id blk hg ⟨r', x, z, hm, he, _⟩
  have := r.blk id blk hg
  have hlt : r' < W.heap.size := by
    cases blk with
    | rows z rs =>
      obtain ⟨r2, x2, c, t, hm2, hh, _⟩ := this
      rw [hm] at hm2; simp at hm2; obtain ⟨rfl, _, _⟩ := hm2
      exact Nat.lt_of_not_le fun hle => by simp [Array.getElem?_eq_none hle] at hh
    | map es =>
      obtain ⟨r2, x2, z2, arr, cl, hm2, hh, _⟩ := this
      rw [hm] at hm2; simp at hm2; obtain ⟨rfl, _, _⟩ := hm2
      exact Nat.lt_of_not_le fun hle => by simp [Array.getElem?_eq_none hle] at hh
    | grow z f =>
      obtain ⟨r2, x2, cells, t, hm2, hh, _⟩ := this
      rw [hm] at hm2; simp at hm2; obtain ⟨rfl, _, _⟩ := hm2
      exact Nat.lt_of_not_le fun hle => by simp [Array.getElem?_eq_none hle] at hh
  omega

/-- a world with the same memory but for new blocks behind -/
structure More (W W' : World) : Prop where
  os : W'.os = W.os
  tape : W'.tape = W.tape
  output : W'.output = W.output
  size : W.heap.size ≤ W'.heap.size
  same : ∀ b, b < W.heap.size → W'.heap[b]? = W.heap[b]?

theorem More.refl (W : World) : More W W := ⟨rfl, rfl, rfl, Nat.le_refl _, fun _ _ => rfl⟩
theorem More.trans {a b c : World} (h : More a b) (k : More b c) : More a c :=
  ⟨k.os.trans h.os, k.tape.trans h.tape, k.output.trans h.output, Nat.le_trans h.size k.size, fun x hx => (k.same x (Nat.lt_of_lt_of_le hx h.size)).trans (h.same x hx)⟩
theorem More.alloc {W W' : World} (h : More W W') (o : Obj) : More W (W'.alloc o) :=
  h.trans ⟨rfl, rfl, rfl, by simp, fun b hb => by show (W'.heap.push o)[b]? = _; simp [Array.getElem?_push, Nat.ne_of_lt hb]⟩
theorem More.drew {W W' : World} (h : More W W') : More W W'.drew := ⟨h.os, h.tape, h.output, h.size, h.same⟩
theorem More.cell {W W' : World} (h : More W W') {b o : Nat} {v : Value} (hc : W.cell? ⟨b, o, none⟩ = some v) : W'.cell? ⟨b, o, none⟩ = some v := by
  have := h.same b (lt_of_cell hc)
  unfold World.cell? at hc ⊢
  simp only [this]
  exact hc

theorem BRel.mono {g g' : G} {W W' : World} {V V' : Nat → Nat → Prop} (hk : Keeps W V W' V') (hg : GLe g g') {id : Nat} {blk : ABlk}
    (hs : ∀ r x z, g.mb id = some (r, x, z) → W'.heap[r]? = W.heap[r]?) (h : BRel g W V id blk) : BRel g' W' V' id blk := by
  cases blk with
  | rows z rs =>
    obtain ⟨r, x, c, t, hm, hh, hcp, hr⟩ := h
    exact ⟨r, x, c, t, (hg _ _ hm).1, (hs _ _ _ hm).trans hh, by rw [(hg _ _ hm).2]; exact hcp, fun row e he => ⟨(hr row e he).1, fun j av hj => let ⟨v, h1, h2⟩ := (hr row e he).2 j av hj; ⟨v, h1, h2.mono hk hg⟩⟩⟩
  | map es =>
    obtain ⟨r, x, z, arr, cl, hm, hh, hs', hr⟩ := h
    exact ⟨r, x, z, arr, cl, (hg _ _ hm).1, (hs _ _ _ hm).trans hh, hs', fun i k v e h1 h2 => let ⟨⟨a, b⟩, c⟩ := hr i k v e h1 h2; ⟨⟨a, b.mono hk hg⟩, c.mono hk hg⟩⟩
  | grow z f =>
    obtain ⟨r, x, cells, t, hm, hh, h1, h2⟩ := h
    exact ⟨r, x, cells, t, (hg _ _ hm).1, (hs _ _ _ hm).trans hh, by rw [(hg _ _ hm).2]; exact h1, by rw [(hg _ _ hm).2]; exact h2⟩

theorem HRel.mb {g : G} {h : AH} {W : World} (r : HRel g h W) {id : Nat} {b : ABlk} (hb : h.get id = some b) : ∃ x y z, g.mb id = some (x, y, z) ∧ x < W.heap.size := by
  have := r.blk id b hb
  cases b with
  | rows z rs => obtain ⟨r, x, c, t, hm, hh, _⟩ := this; exact ⟨_, _, _, hm, Nat.lt_of_not_le fun hle => by simp [Array.getElem?_eq_none hle] at hh⟩
  | map es => obtain ⟨r, x, z, arr, cl, hm, hh, _⟩ := this; exact ⟨_, _, _, hm, Nat.lt_of_not_le fun hle => by simp [Array.getElem?_eq_none hle] at hh⟩
  | grow z f => obtain ⟨r, x, cells, t, hm, hh, _⟩ := this; exact ⟨_, _, _, hm, Nat.lt_of_not_le fun hle => by simp [Array.getElem?_eq_none hle] at hh⟩

theorem more_sound {g : G} {h : AH} {W W' : World} (r : HRel g h W) (m : More W W') : HRel g h W' ∧ Ext g h W g h W' := by
  have hk : Keeps W (U g h) W' (U g h) := fun b o v hu hc => ⟨hu, m.cell hc⟩
  refine ⟨⟨r.dom, fun id b hb => (r.blk id b hb).mono hk (GLe.refl g) fun x y z hm => ?_, r.apart, r.esc, fun b hb => Nat.lt_of_lt_of_le (r.res b hb) m.size, r.own, fun p hp => hk _ _ _ (r.gl p hp).1 (r.gl p hp).2⟩, ⟨m.os, m.tape, m.output, m.size, GLe.refl g, fun _ _ _ h => h, fun _ _ _ _ hc => m.cell hc, fun b hb _ => m.same b hb, rfl, fun b hb => m.same b (r.res b hb)⟩⟩
  obtain ⟨x', y', z', hm', hlt⟩ := r.mb hb
  rw [hm] at hm'; simp at hm'; obtain ⟨rfl, _, _⟩ := hm'
  exact m.same x hlt

theorem get_push {h : AH} {b : ABlk} {id : Nat} : (h.push b).get id = if id = h.bl.length then some b else h.get id := by
  simp only [AH.get, AH.push, List.getElem?_append]
  by_cases h1 : id < h.bl.length
  · simp [h1, Nat.ne_of_lt h1]
  · by_cases h2 : id = h.bl.length
    · subst h2; simp
    · have : h.bl.length < id := by omega
      simp [h1, h2, List.getElem?_eq_none (Nat.le_of_lt this), List.getElem?_eq_none (show [some b].length ≤ id - h.bl.length by simp; omega)]

theorem get_lt {h : AH} {id : Nat} {b : ABlk} (hg : h.get id = some b) : id < h.bl.length := by
  simp only [AH.get] at hg
  exact Nat.lt_of_not_le fun hle => by simp [List.getElem?_eq_none hle] at hg

/-- a new block of the run's own -/
theorem push_sound {g : G} {h : AH} {W W' : World} (r : HRel g h W) (m : More W W') (blk : ABlk) (b x z c : Nat) (hb : W.heap.size ≤ b)
    (hbr : ∀ (g' : G) (V' : Nat → Nat → Prop), GLe g g' → Keeps W (U g h) W' V' → g'.mb h.bl.length = some (b, x, z) → g'.cp h.bl.length = c → BRel g' W' V' h.bl.length blk)
    (hesc : ∀ r ∈ blkRefs blk, r ≤ h.bl.length) :
    ∃ g', HRel g' (h.push blk) W' ∧ Ext g h W g' (h.push blk) W' ∧ g'.mb h.bl.length = some (b, x, z) ∧ g'.cp h.bl.length = c := by
  let g' : G := ⟨fun id => if id = h.bl.length then some (b, x, z) else g.mb id, fun id => if id = h.bl.length then c else g.cp id, g.rs⟩
  have hgle : GLe g g' := fun id y hy => by
    have : id ≠ h.bl.length := fun e => by subst e; rw [r.dom _ (Nat.le_refl _)] at hy; cases hy
    simp [g', this, hy]
  have hnew : g'.mb h.bl.length = some (b, x, z) := by simp [g']
  have hnewc : g'.cp h.bl.length = c := by simp [g']
  have hfree : ∀ c o, c < W.heap.size → U g h c o → U g' (h.push blk) c o := by
    intro c o hc hu
    refine ⟨hu.1, ?_⟩
    intro id blk' hg' ⟨r', x', z', hm, he, hp⟩
    rw [get_push] at hg'
    split at hg'
    · rename_i hid; subst hid; rw [hnew] at hm; simp at hm; obtain ⟨rfl, _, _⟩ := hm; omega
    · rename_i hid
      have hm' : g.mb id = some (r', x', z') := by simpa [g', hid] using hm
      exact hu.2 id blk' hg' ⟨r', x', z', hm', he, hp⟩
  have hk : Keeps W (U g h) W' (U g' (h.push blk)) := fun c o v hu hc => ⟨hfree c o (lt_of_cell hc) hu, m.cell hc⟩
  refine ⟨g', ⟨?_, ?_, ?_, ?_, fun q hq => Nat.lt_of_lt_of_le (r.res q hq) m.size, ?_, fun p hp => hk _ _ _ (r.gl p hp).1 (r.gl p hp).2⟩, ⟨m.os, m.tape, m.output, m.size, hgle, hfree, fun _ _ _ _ hc => m.cell hc, fun c hc _ => m.same c hc, rfl, fun q hq => m.same q (r.res q hq)⟩, hnew, hnewc⟩
  · intro id hid
    have h2 : id ≠ h.bl.length := by simp [AH.push] at hid; omega
    have h3 : h.bl.length ≤ id := by simp [AH.push] at hid; omega
    simp [g', h2, r.dom id h3]
  · intro id b' hg'
    rw [get_push] at hg'
    split at hg'
    · rename_i hid; subst hid; simp at hg'; subst hg'
      exact hbr g' _ hgle hk hnew hnewc
    · refine (r.blk id b' hg').mono hk hgle fun x y z hm => ?_
      obtain ⟨x', y', z', hm', hlt⟩ := r.mb hg'
      rw [hm] at hm'; simp at hm'; obtain ⟨rfl, _, _⟩ := hm'
      exact m.same x hlt
  · intro i j bi bj ri xi zi rj xj zj hij hi hj hmi hmj
    rw [get_push] at hi hj
    have old : ∀ {k : Nat} {bk : ABlk} {rk xk zk : Nat}, k ≠ h.bl.length → h.get k = some bk → g'.mb k = some (rk, xk, zk) → g.mb k = some (rk, xk, zk) ∧ rk < W.heap.size := by
      intro k bk rk xk zk hk1 hk2 hk3
      have hk4 : g.mb k = some (rk, xk, zk) := by simpa [g', hk1] using hk3
      obtain ⟨x', y', z', hm', hlt⟩ := r.mb hk2
      rw [hk4] at hm'; simp at hm'; obtain ⟨rfl, _, _⟩ := hm'
      exact ⟨hk4, hlt⟩
    by_cases hil : i = h.bl.length
    · have hjl : j ≠ h.bl.length := fun e => hij (hil.trans e.symm)
      simp only [hjl, if_false] at hj
      rw [hil, hnew] at hmi; simp at hmi; obtain ⟨rfl, _, _⟩ := hmi
      have := (old hjl hj hmj).2
      omega
    · simp only [hil, if_false] at hi
      by_cases hjl : j = h.bl.length
      · rw [hjl, hnew] at hmj; simp at hmj; obtain ⟨rfl, _, _⟩ := hmj
        have := (old hil hi hmi).2
        omega
      · simp only [hjl, if_false] at hj
        exact r.apart i j bi bj ri xi zi rj xj zj hij hi hj (old hil hi hmi).1 (old hjl hj hmj).1
  · intro id b' hg' q hq
    rw [get_push] at hg'
    split at hg'
    · rename_i hid; subst hid; simp at hg'; subst hg'; exact .inl (hesc q hq)
    · exact r.esc id b' hg' q hq
  · intro id b' r' x' z' hg' hm' hrs
    rw [get_push] at hg'
    split at hg'
    · rename_i hid; subst hid; rw [hnew] at hm'; simp at hm'; obtain ⟨rfl, _, _⟩ := hm'
      exact absurd (r.res _ hrs) (by omega)
    · rename_i hid
      exact r.own id b' r' x' z' hg' (by simpa [g', hid] using hm') hrs

end Go.Proofs.YtfahpmlckobpmaaGreatDoor.Pi
/-
  Reading and writing cells, and the values that are built.
-/
namespace Go.Proofs.YtfahpmlckobpmaaGreatDoor.Pi
open Go

theorem add_none (b o n : Nat) : (⟨b, o, none⟩ : Addr).add n = ⟨b, o + n, none⟩ := by
  unfold Addr.add
  split
  · subst_vars; rfl
  · rfl

/-- cells at a place -/
def Lay (g : G) (W : World) (V : Nat → Nat → Prop) (b o : Nat) (cs : List AV) : Prop :=
  (∀ av ∈ cs, av.isCell = true) ∧ ∀ (i : Nat) (av : AV), cs[i]? = some av → ∃ x, W.cell? ⟨b, o + i, none⟩ = some x ∧ VRel g W V av x

theorem Lay.drop {g : G} {W : World} {V : Nat → Nat → Prop} {b o : Nat} {cs : List AV} (h : Lay g W V b o cs) (n : Nat) : Lay g W V b (o + n) (cs.drop n) :=
  ⟨fun av hm => h.1 av (List.mem_of_mem_drop hm), fun i av hi => by
    rw [List.getElem?_drop] at hi
    obtain ⟨x, h1, h2⟩ := h.2 _ _ hi
    exact ⟨x, by rw [Nat.add_assoc]; exact h1, h2⟩⟩

def aggOK (P : Program) (t : TypeId) (agg : Bool) : Bool :=
  match P.underlying t with
  | some (.struct _) | some (.array _ _) => agg
  | some _ => !agg
  | none => false

def sizeOK (P : Program) (t : TypeId) (s : Nat) : Bool :=
  match P.info? t with
  | some i => i.size == s
  | none => false

section
variable {P : Program} {g : G} {h : AH} {W : World}

theorem run_isAgg {t : TypeId} {agg : Bool} (h : aggOK P t agg = true) : (isAgg t).run P W = .ok agg W := by
  unfold aggOK at h
  unfold isAgg
  rw [Sem.run_bind]
  split at h
  · rename_i fs hu
    subst h; rw [run_underlying hu]; rfl
  · rename_i n e hu
    subst h; rw [run_underlying hu]; rfl
  · rename_i d hn1 hn2 hu
    rw [run_underlying hu]
    simp at h; subst h
    cases d <;> first | rfl | (exfalso; exact hn1 _ rfl) | (exfalso; exact hn2 _ _ rfl)
  · cases h

theorem run_size {t : TypeId} {s : Nat} (h : sizeOK P t s = true) : (sizeOf t).run P W = .ok s W := by
  unfold sizeOK at h
  split at h
  · rename_i i hi
    simp at h; subst h
    unfold sizeOf typeInfo
    simp [hi]
  · cases h

theorem load_lay {V : Nat → Nat → Prop} {b o : Nat} {cs : List AV} (hl : Lay g W V b o cs) {t : TypeId} {agg : Bool} {s : Nat} (ha : aggOK P t agg = true) (hs : sizeOK P t s = true)
    {v : AV} (hv : readAt agg s cs = some v) : ∃ x, (loadVar t ⟨b, o, none⟩).run P W = .ok x W ∧ VRel g W V v x := by
  unfold readAt at hv
  unfold loadVar
  rw [Sem.run_bind, run_isAgg ha]
  simp only [Result.andThen_ok]
  cases agg with
  | true =>
    simp only [if_true] at hv ⊢
    split at hv
    · rename_i hlen
      simp at hv; subst hv
      have hx : ∀ j, j < s → ∃ x, W.cell? ⟨b, o + j, none⟩ = some x ∧ VRel g W V (cs.getD j .any) x := fun j hj => by
        have hj' : j < cs.length := by omega
        obtain ⟨x, h1, h2⟩ := hl.2 j (cs[j]) (by simp [hj'])
        exact ⟨x, h1, by simpa [hj'] using h2⟩
      have hrun := run_loadCells (P := P) W ⟨b, o, none⟩ s (fun j => (W.cell? ⟨b, o + j, none⟩).getD undef) (fun j hj => by
        obtain ⟨x, h1, _⟩ := hx j hj
        rw [add_none, h1]; rfl)
      rw [Sem.run_bind, run_size hs]
      simp only [Result.andThen_ok, Sem.run_bind, hrun, Sem.run_pure]
      refine ⟨_, rfl, .agg _ _ (fun av hm => hl.1 av (List.mem_of_mem_take hm)) (by simp; omega) fun i av x h1 h2 => ?_⟩
      have hi : i < s := by
        have := (List.getElem?_eq_some_iff.1 h1).1
        simp at this; omega
      rw [List.getElem?_take_of_lt hi] at h1
      obtain ⟨y, h3, h4⟩ := hl.2 i av h1
      simp [hi, h3] at h2
      subst h2
      exact h4
    · cases hv
  | false =>
    simp only [Bool.false_eq_true, if_false] at hv ⊢
    have h0 : cs[0]? = some v := by cases cs <;> simp_all
    obtain ⟨x, h1, h2⟩ := hl.2 0 v h0
    simp only [Nat.add_zero] at h1
    exact ⟨x, by rw [run_load]; simp [h1], h2⟩

theorem lay_ref {V : Nat → Nat → Prop} {cs : List AV} {v : Value} (hx : VRel g W V (.ref cs) v) : ∃ b o, v = .pointer (some ⟨b, o, none⟩) ∧ Lay g W V b o cs := by
  obtain ⟨b, o, val, rfl, hc, h1, h2⟩ := inv_ref hx
  exact ⟨b, o, rfl, hc, fun i av hi => ⟨val i, (h1 i av hi).2, h2 i av hi⟩⟩

theorem lay_row (hr : HRel g h W) {id row z : Nat} {rs : List (List AV)} {cs : List AV} (hg : h.get id = some (.rows z rs)) (hrow : rs[row]? = some cs) :
    ∃ r x, g.mb id = some (r, x, z) ∧ Lay g W (U g h) r (x + row * z) cs := by
  obtain ⟨r, x, c, t, hm, hh, _, hrel⟩ := hr.blk id _ hg
  obtain ⟨⟨_, hcell⟩, h2⟩ := hrel row cs hrow
  refine ⟨r, x, hm, hcell, fun i av hi => ?_⟩
  obtain ⟨v, h3, h4⟩ := h2 i av hi
  exact ⟨v, by simp [World.cell?, hh, h3], h4⟩

theorem load_sound (hr : HRel g h W) {t : TypeId} {agg : Bool} {s : Nat} (ha : aggOK P t agg = true) (hs : sizeOK P t s = true) {p : AV} {pv : Value} (hp : VRel g W (U g h) p pv) {v : AV}
    (hv : (match (generalizing := false) p with
      | .ref cs => readAt agg s cs
      | .ptr id row off =>
        match h.get id with
        | some (.rows _ rs) => (rs[row]?).bind fun cs => readAt agg s (cs.drop off)
        | _ => none
      | _ => none) = some v) : ∃ x, (Instr.loadAt t pv).run P W = .ok x W ∧ VRel g W (U g h) v x := by
  cases p with
  | ref cs =>
    obtain ⟨b, o, rfl, hl⟩ := lay_ref hp
    exact load_lay hl ha hs hv
  | ptr id row off =>
    simp only at hv
    split at hv
    · rename_i z rs hg
      obtain ⟨cs, h1, h2⟩ := bind_some_iff.1 hv
      obtain ⟨r, x, hm, hl⟩ := lay_row hr hg h1
      obtain ⟨r', x', z', hm', rfl⟩ := inv_ptr hp
      rw [hm] at hm'; simp at hm'; obtain ⟨rfl, rfl, rfl⟩ := hm'
      exact load_lay (hl.drop off) ha hs h2
    · cases hv
  | _ => cases hv

/-! ### writing -/
theorem oneCell {V : Nat → Nat → Prop} {a : AV} {v : Value} (h : VRel g W V a v) (hc : a.isCell = true) : v.oneCell' = true := by
  cases h with
  | any v => cases hc
  | pure _ _ h => cases h <;> rfl
  | agg _ _ _ _ _ => cases hc
  | tup _ _ _ _ => cases hc
  | _ => rfl

/-- a row of cells, some of them stored anew -/
def setCells (c : Array Value) (o : Nat) : List Value → Array Value
  | [] => c
  | v :: r => setCells (c.setIfInBounds o v) (o + 1) r

theorem size_setCells (o : Nat) (l : List Value) : ∀ (c : Array Value), (setCells c o l).size = c.size := by
  induction l generalizing o with
  | nil => intro c; rfl
  | cons v l ih => intro c; simp [setCells, ih]

theorem get_setCells (l : List Value) : ∀ (c : Array Value) (o i : Nat), o + l.length ≤ c.size →
    (setCells c o l)[i]? = if o ≤ i ∧ i < o + l.length then l[i - o]? else c[i]? := by
  induction l with
  | nil =>
    intro c o i _
    have : ¬ (o ≤ i ∧ i < o + 0) := by omega
    simp [setCells]
    intro h1 h2; omega
  | cons v l ih =>
    intro c o i hl
    simp only [List.length_cons] at hl
    rw [setCells, ih _ _ _ (by simp; omega)]
    by_cases h1 : o + 1 ≤ i ∧ i < o + 1 + l.length
    · have h2 : o ≤ i ∧ i < o + (l.length + 1) := by omega
      have h3 : i - o = (i - (o + 1)) + 1 := by omega
      simp only [h1, h2, List.length_cons, and_self, if_true, h3, List.getElem?_cons_succ]
    · by_cases h2 : i = o
      · subst h2
        have h3 : i < c.size := by omega
        have h4 : ¬ (i + 1 ≤ i ∧ i < i + 1 + l.length) := by omega
        have h5 : i ≤ i ∧ i < i + (l.length + 1) := by omega
        simp only [h4, if_false, List.length_cons, h5, and_self, if_true, Nat.sub_self, List.getElem?_cons_zero]
        simp [h3]
      · have h3 : ¬ (o ≤ i ∧ i < o + (l.length + 1)) := by omega
        simp only [h1, if_false, List.length_cons, h3]
        exact Array.getElem?_setIfInBounds_ne (Ne.symm h2)

def putBlock (W : World) (b : Nat) (o : Obj) : World := { W with heap := W.heap.setIfInBounds b o }

theorem setCell_put {b o : Nat} {v : Value} {c : Array Value} {t : TypeId} {f : Nat × Nat} (hh : W.heap[b]? = some (.cells c t f)) :
    W.setCell ⟨b, o, none⟩ v = putBlock W b (.cells (c.setIfInBounds o v) t f) := by
  unfold World.setCell putBlock
  congr 1
  apply Array.ext_getElem?
  intro i
  rw [Array.getElem?_modify, Array.getElem?_setIfInBounds]
  by_cases hi : b = i
  · subst hi
    have hlt : b < W.heap.size := Nat.lt_of_not_le fun hle => by simp [Array.getElem?_eq_none hle] at hh
    have e : W.heap[b] = .cells c t f := by simpa [hlt] using hh
    simp [hlt, e]
  · simp [hi]

theorem get_putBlock {b : Nat} {o : Obj} (hb : b < W.heap.size) (i : Nat) : (putBlock W b o).heap[i]? = if i = b then some o else W.heap[i]? := by
  unfold putBlock
  rw [Array.getElem?_setIfInBounds]
  by_cases h : b = i
  · subst h; simp [hb]
  · simp [h, Ne.symm h]

theorem put_put (b : Nat) (o o' : Obj) : putBlock (putBlock W b o) b o' = putBlock W b o' := by
  unfold putBlock
  congr 1
  exact Array.setIfInBounds_setIfInBounds ..

theorem run_storeCells {b : Nat} {t : TypeId} : ∀ (l : List Value) (o i : Nat) (W : World) (c : Array Value), W.heap[b]? = some (.cells c t (0, 0)) → (∀ v ∈ l, v.oneCell' = true) → o + i + l.length ≤ c.size →
    (storeCells ⟨b, o, none⟩ l i).run P W = .ok () (if l = [] then W else putBlock W b (.cells (setCells c (o + i) l) t (0, 0))) := by
  intro l
  induction l with
  | nil => intro o i W c _ _ _; simp [storeCells]
  | cons v l ih =>
    intro o i W c hh hv hl
    simp only [List.length_cons] at hl
    have hb : b < W.heap.size := Nat.lt_of_not_le fun hle => by simp [Array.getElem?_eq_none hle] at hh
    have hcell : W.cell? ⟨b, o + i, none⟩ = some (c[o + i]'(by omega)) := by
      simp [World.cell?, hh, show o + i < c.size by omega]
    have hfr : W.frozen? ⟨b, o + i, none⟩ = false := by simp [World.frozen?, hh]
    rw [storeCells, Sem.run_bind, add_none, run_store _ _ _ _ _ (hv v (by simp))]
    simp only [hcell, hfr, Bool.false_eq_true, if_false, Result.andThen_ok]
    rw [setCell_put hh]
    have hh' : (putBlock W b (.cells (c.setIfInBounds (o + i) v) t (0, 0))).heap[b]? = some (.cells (c.setIfInBounds (o + i) v) t (0, 0)) := by rw [get_putBlock hb]; simp
    rw [ih o (i + 1) _ _ hh' (fun v hv' => hv v (by simp [hv'])) (by simp; omega)]
    cases l with
    | nil => simp [setCells, Nat.add_assoc]
    | cons y l => simp [setCells, put_put, Nat.add_assoc]

/-- the cells' own list behind a value -/
theorem cells_rel {V : Nat → Nat → Prop} {a : AV} {v : Value} (h : VRel g W V a v) {cs : List AV} (hc : cellsOf a = some cs) :
    (∀ av ∈ cs, av.isCell = true) ∧ cs.length = v.cells.size ∧ ∀ (i : Nat) (av : AV) (x : Value), cs[i]? = some av → v.cells[i]? = some x → VRel g W V av x := by
  have one : a.isCell = true → cs = [a] → (∀ av ∈ cs, av.isCell = true) ∧ cs.length = v.cells.size ∧ ∀ (i : Nat) (av : AV) (x : Value), cs[i]? = some av → v.cells[i]? = some x → VRel g W V av x := by
    intro h1 h2
    subst h2
    have h3 := oneCell h h1
    have h4 : v.cells = #[v] := by cases v <;> first | rfl | cases h3
    rw [h4]
    refine ⟨by simpa using h1, rfl, fun i av x hi hj => ?_⟩
    cases i with
    | zero => simp at hi hj; subst hi; subst hj; exact h
    | succ i => simp at hi
  cases a with
  | any => cases hc
  | agg l =>
    simp [cellsOf] at hc; subst hc
    obtain ⟨x, rfl, h1, h2, h3⟩ := inv_agg h
    exact ⟨h1, h2, h3⟩
  | tup l => cases hc
  | _ => exact one rfl (by simp [cellsOf] at hc; exact hc.symm)

theorem splice_get {cs new r : List AV} {off : Nat} (hs : splice cs off new = some r) : off + new.length ≤ cs.length ∧ r.length = cs.length ∧
    ∀ i, r[i]? = if off ≤ i ∧ i < off + new.length then new[i - off]? else cs[i]? := by
  unfold splice at hs
  split at hs
  · rename_i hl
    simp at hs; subst hs
    refine ⟨hl, by simp; omega, fun i => ?_⟩
    by_cases h1 : i < off
    · have : ¬ (off ≤ i ∧ i < off + new.length) := by omega
      simp only [this, if_false]
      rw [List.getElem?_append_left (by simp; omega), List.getElem?_take_of_lt h1]
    · rw [List.getElem?_append_right (by simp; omega)]
      have h2 : (cs.take off).length = off := by simp; omega
      rw [h2]
      by_cases h3 : i < off + new.length
      · have : off ≤ i ∧ i < off + new.length := by omega
        simp only [this, and_self, if_true]
        rw [List.getElem?_append_left (by omega)]
      · have : ¬ (off ≤ i ∧ i < off + new.length) := by omega
        simp only [this, if_false]
        rw [List.getElem?_append_right (by omega), List.getElem?_drop]
        congr 1; omega
  · cases hs

theorem get_set {id : Nat} {b : ABlk} (hid : id < h.bl.length) (i : Nat) : (h.set id b).get i = if i = id then some b else h.get i := by
  simp only [AH.get, AH.set, List.getElem?_set]
  by_cases hi : id = i
  · subst hi; simp [hid]
  · simp [hi, Ne.symm hi]

theorem U_rows {id z : Nat} {rs rs' : List (List AV)} (hg : h.get id = some (.rows z rs)) : U g (h.set id (.rows z rs')) = U g h := by
  funext b o
  apply propext
  have hid := get_lt hg
  constructor
  · intro hu
    refine ⟨hu.1, fun i blk hi ho => ?_⟩
    by_cases he : i = id
    · subst he
      rw [hg] at hi; simp at hi; subst hi
      exact hu.2 i (.rows z rs') (by rw [get_set hid]; simp) ho
    · exact hu.2 i blk (by rw [get_set hid]; simp [he, hi]) ho
  · intro hu
    refine ⟨hu.1, fun i blk hi ho => ?_⟩
    rw [get_set hid] at hi
    split at hi
    · rename_i he; subst he; simp at hi; subst hi
      exact hu.2 i (.rows z rs) hg ho
    · exact hu.2 i blk hi ho

theorem write_sound (hr : HRel g h W) {id z r x : Nat} {rs rs' : List (List AV)} (hg : h.get id = some (.rows z rs)) (hm : g.mb id = some (r, x, z)) {c c' : Array Value} {t : TypeId}
    (hh : W.heap[r]? = some (.cells c t (0, 0))) (hsz : c'.size = c.size) (refs : List Nat)
    (hrel : ∀ (row : Nat) (e : List AV), rs'[row]? = some e → (e.length = z ∧ ∀ av ∈ e, av.isCell = true) ∧ ∀ (j : Nat) (av : AV), e[j]? = some av → ∃ v, c'[x + row * z + j]? = some v ∧ VRel g W (U g h) av v)
    (hesc : ∀ q ∈ rs'.flatMap refsL, q ∈ rs.flatMap refsL ∨ q ∈ refs) :
    HRel g ((h.set id (.rows z rs')).note id refs) (putBlock W r (.cells c' t (0, 0))) ∧ Ext g h W g ((h.set id (.rows z rs')).note id refs) (putBlock W r (.cells c' t (0, 0))) := by
  have hid := get_lt hg
  have hrb : r < W.heap.size := Nat.lt_of_not_le fun hle => by simp [Array.getElem?_eq_none hle] at hh
  have hU : U g ((h.set id (.rows z rs')).note id refs) = U g h := U_rows (rs' := rs') hg
  have hne : ∀ b o, U g h b o → b ≠ r := fun b o hu e => hu.2 id _ hg ⟨r, x, z, hm, e, trivial⟩
  have hcell : ∀ b o v, U g h b o → W.cell? ⟨b, o, none⟩ = some v → (putBlock W r (.cells c' t (0, 0))).cell? ⟨b, o, none⟩ = some v := by
    intro b o v hu hc
    have := get_putBlock (W := W) (o := .cells c' t (0, 0)) hrb b
    simp only [hne b o hu, if_false] at this
    unfold World.cell? at hc ⊢
    simp only [this]
    exact hc
  have hk : Keeps W (U g h) (putBlock W r (.cells c' t (0, 0))) (U g ((h.set id (.rows z rs')).note id refs)) := fun b o v hu hc => ⟨by rw [hU]; exact hu, hcell b o v hu hc⟩
  refine ⟨⟨fun i hi => hr.dom i (by simpa [AH.note, AH.set] using hi), ?_, ?_, ?_, fun b hb => by simpa [putBlock] using hr.res b hb, ?_, fun p hp => hk _ _ _ (hr.gl p hp).1 (hr.gl p hp).2⟩, ⟨rfl, rfl, rfl, by simp [putBlock], GLe.refl g, fun b o _ hu => by rw [hU]; exact hu, hcell, fun b hb hu => ?_, rfl, fun b hb => ?_⟩⟩
  · intro i b hi
    have hi' : (h.set id (.rows z rs')).get i = some b := hi
    rw [get_set hid] at hi'
    split at hi'
    · rename_i he; subst he; simp at hi'; subst hi'
      have hcp : x + g.cp i * z ≤ c'.size := by
        obtain ⟨r2, x2, c2, t2, hm2, hh2, hcp2, _⟩ := hr.blk i _ hg
        rw [hm] at hm2; simp at hm2; obtain ⟨rfl, rfl⟩ := hm2
        rw [hh] at hh2; simp at hh2; obtain ⟨rfl, _⟩ := hh2
        rw [hsz]; exact hcp2
      refine ⟨r, x, c', t, hm, by rw [get_putBlock hrb]; simp, hcp, fun row e he => ⟨(hrel row e he).1, fun j av hj => ?_⟩⟩
      obtain ⟨v, h1, h2⟩ := (hrel row e he).2 j av hj
      exact ⟨v, h1, h2.mono hk (GLe.refl g)⟩
    · rename_i he
      refine (hr.blk i b hi').mono hk (GLe.refl g) fun r' x' z' hm' => ?_
      rw [get_putBlock hrb]
      have : r' ≠ r := hr.apart i id b _ r' x' z' r x z he hi' hg hm' hm
      simp [this]
  · intro i j bi bj ri xi zi rj xj zj hij hi hj hmi hmj
    have hi' : (h.set id (.rows z rs')).get i = some bi := hi
    have hj' : (h.set id (.rows z rs')).get j = some bj := hj
    rw [get_set hid] at hi' hj'
    have f : ∀ {k : Nat} {bk : ABlk}, (if k = id then some (ABlk.rows z rs') else h.get k) = some bk → ∃ bk', h.get k = some bk' := by
      intro k bk hk
      split at hk
      · rename_i e; subst e; exact ⟨_, hg⟩
      · exact ⟨_, hk⟩
    obtain ⟨bi', hi''⟩ := f hi'
    obtain ⟨bj', hj''⟩ := f hj'
    exact hr.apart i j bi' bj' ri xi zi rj xj zj hij hi'' hj'' hmi hmj
  · intro i b hi q hq
    have hi' : (h.set id (.rows z rs')).get i = some b := hi
    rw [get_set hid] at hi'
    simp only [AH.note, AH.set, List.mem_append]
    split at hi'
    · rename_i he; subst he; simp at hi'; subst hi'
      rcases hesc q hq with h1 | h1
      · exact (hr.esc i _ hg q h1).imp (fun x => x) .inr
      · by_cases hlt : i < q
        · exact .inr (.inl (List.mem_map.2 ⟨q, List.mem_filter.2 ⟨h1, by simpa using hlt⟩, rfl⟩))
        · exact .inl (by omega)
    · exact (hr.esc i b hi' q hq).imp (fun x => x) .inr
  · intro i b r' x' z' hi hmi
    have hi' : (h.set id (.rows z rs')).get i = some b := hi
    rw [get_set hid] at hi'
    split at hi'
    · rename_i he; subst he; exact hr.own i _ r' x' z' hg hmi
    · exact hr.own i b r' x' z' hi' hmi
  · have hb' : b ≠ r := hne b 0 (hu 0)
    rw [get_putBlock hrb]; simp [hb']
  · have hb' : b ≠ r := fun e => hr.own id _ r x z hg hm (e ▸ hb)
    rw [get_putBlock hrb]; simp [hb']

theorem run_storeVar {t : TypeId} {s b o : Nat} (hs : sizeOK P t s = true) {v : Value} (hv : v.cells.size = s) (h1 : ∀ y ∈ v.cells.toList, y.oneCell' = true) {c : Array Value} {ct : TypeId}
    (hh : W.heap[b]? = some (.cells c ct (0, 0))) (hl : o + s ≤ c.size) :
    (storeVar t ⟨b, o, none⟩ v).run P W = .ok () (if v.cells.toList = [] then W else putBlock W b (.cells (setCells c o v.cells.toList) ct (0, 0))) := by
  unfold storeVar
  rw [Sem.run_bind, run_size hs]
  simp only [Result.andThen_ok, hv, ne_eq, not_true, if_false]
  have := run_storeCells (P := P) v.cells.toList o 0 W c hh h1 (by simp [hv]; omega)
  simpa using this

theorem flat_set {rs : List (List AV)} {row : Nat} {cs : List AV} {q : Nat} (h : q ∈ (rs.set row cs).flatMap refsL) : q ∈ rs.flatMap refsL ∨ q ∈ refsL cs := by
  obtain ⟨l, hl, hq⟩ := List.mem_flatMap.1 h
  rcases List.mem_or_eq_of_mem_set hl with h1 | h1
  · exact .inl (List.mem_flatMap.2 ⟨l, h1, hq⟩)
  · subst h1; exact .inr hq

theorem refsL_mem {l : List AV} {q : Nat} : q ∈ refsL l ↔ ∃ av ∈ l, q ∈ av.refs := by
  induction l with
  | nil => simp [refsL]
  | cons a l ih => simp [refsL, ih]

theorem store_sound (hr : HRel g h W) {t : TypeId} {s : Nat} (hs : sizeOK P t s = true) {id row off z : Nat} {pv : Value} (hp : VRel g W (U g h) (.ptr id row off) pv) {x : AV} {v : Value} (hv : VRel g W (U g h) x v)
    {rs : List (List AV)} (hg : h.get id = some (.rows z rs)) {cs new cs' : List AV} (hrow : rs[row]? = some cs) (hc : cellsOf x = some new) (hn : new.length = s) (hsp : splice cs off new = some cs') :
    ∃ W', (Instr.storeAt t pv v).run P W = .ok () W' ∧ HRel g ((h.set id (.rows z (rs.set row cs'))).note id (refsL new)) W' ∧ Ext g h W g ((h.set id (.rows z (rs.set row cs'))).note id (refsL new)) W' := by
  obtain ⟨r, x0, c, ct, hm, hh, _, hrel⟩ := hr.blk id _ hg
  obtain ⟨r', x', z', hm', rfl⟩ := inv_ptr hp
  rw [hm] at hm'; simp at hm'; obtain ⟨rfl, rfl, rfl⟩ := hm'
  obtain ⟨hcell, hlen, hvals⟩ := cells_rel hv hc
  obtain ⟨hs1, hs2, hs3⟩ := splice_get hsp
  obtain ⟨⟨hz, hcc⟩, hrw⟩ := hrel row cs hrow
  have hone : ∀ y ∈ v.cells.toList, y.oneCell' = true := by
    intro y hy
    obtain ⟨i, hi⟩ := List.mem_iff_getElem?.1 hy
    have hlt : i < new.length := by have := (List.getElem?_eq_some_iff.1 hi).1; simp at this; omega
    exact oneCell (hvals i new[i] y (by simp [hlt]) (by simpa using hi)) (hcell _ (by simp))
  have hrowlt : row < rs.length := (List.getElem?_eq_some_iff.1 hrow).1
  by_cases hs0 : s = 0
  · -- nothing is stored
    have hnew : new = [] := List.length_eq_zero_iff.1 (hn.trans hs0)
    subst hnew
    have hcs : cs' = cs := by
      apply List.ext_getElem?
      intro i
      rw [hs3 i]
      simp
      intro h1 h2; omega
    subst hcs
    have hv0 : v.cells.toList = [] := by
      have : v.cells.size = 0 := by simpa using hlen.symm
      simpa using this
    have hrun : (Instr.storeAt t (.pointer (some ⟨r, x0 + row * z + off, none⟩)) v).run P W = .ok () W := by
      unfold Instr.storeAt Instr.sureAddr storeVar
      simp only [Sem.run_bind, Sem.run_pure, Result.andThen_ok, run_size hs]
      have : v.cells.size = s := by rw [← hlen, hs0]; rfl
      simp [this, hv0, storeCells]
    have hset : rs.set row cs' = rs := by
      apply List.ext_getElem?
      intro i
      rw [List.getElem?_set]
      split
      · rename_i e; subst e; rw [hrow]
      · rfl
    have hnote : ((h.set id (.rows z (rs.set row cs'))).note id (refsL [])) = h := by
      rw [hset]
      have : h.bl.set id (some (.rows z rs)) = h.bl := by
        apply List.ext_getElem?
        intro i
        rw [List.getElem?_set]
        split
        · rename_i e; subst e
          have hg' := hg
          simp only [AH.get] at hg'
          have hlt := get_lt hg
          simp only [List.getElem?_eq_getElem hlt, Option.join_some] at hg' ⊢
          simp [hg', hlt]
        · rfl
      simp [AH.note, AH.set, refsL, this]
    rw [hnote]
    exact ⟨W, hrun, hr, Ext.refl _ _ _⟩
  · -- the block's row holds it
    have hsz : x0 + row * z + off + s ≤ c.size := by
      have hlast : off + s - 1 < cs.length := by omega
      obtain ⟨y, hy, _⟩ := hrw (off + s - 1) cs[off + s - 1] (by simp [hlast])
      have := (Array.getElem?_eq_some_iff.1 hy).1
      omega
    have hrun := run_storeVar (P := P) (W := W) hs (v := v) (by omega) hone hh (o := x0 + row * z + off) hsz
    have hne : v.cells.toList ≠ [] := by
      intro e
      have : v.cells.size = 0 := by simpa using congrArg List.length e
      omega
    simp only [hne, if_false] at hrun
    refine ⟨_, by unfold Instr.storeAt Instr.sureAddr; simpa using hrun, ?_⟩
    refine write_sound hr hg hm hh (by rw [size_setCells]) (refsL new) (fun row' e he => ?_) (fun q hq => ?_)
    · rw [List.getElem?_set] at he
      by_cases hrr : row = row'
      · subst hrr
        simp only [if_true, hrowlt] at he
        simp at he; subst he
        refine ⟨⟨hs2.trans hz, fun av hav => ?_⟩, fun j av hj => ?_⟩
        · obtain ⟨i, hi⟩ := List.mem_iff_getElem?.1 hav
          rw [hs3 i] at hi
          split at hi
          · exact hcell av (List.mem_of_getElem? hi)
          · exact hcc av (List.mem_of_getElem? hi)
        · rw [get_setCells _ _ _ _ (by simp; omega)]
          rw [hs3 j] at hj
          have hlt : j < cs.length := by
            split at hj
            · omega
            · exact (List.getElem?_eq_some_iff.1 hj).1
          split at hj
          · rename_i hjr
            have h2 : x0 + row * z + off ≤ x0 + row * z + j ∧ x0 + row * z + j < x0 + row * z + off + v.cells.toList.length := by simp; omega
            simp only [h2, and_self, if_true]
            have h3 : x0 + row * z + j - (x0 + row * z + off) = j - off := by omega
            rw [h3]
            have hjn : j - off < v.cells.size := by omega
            refine ⟨v.cells[j - off], by simp [hjn], hvals (j - off) av _ hj (by simp [hjn])⟩
          · rename_i hjr
            have h2 : ¬ (x0 + row * z + off ≤ x0 + row * z + j ∧ x0 + row * z + j < x0 + row * z + off + v.cells.toList.length) := by simp; omega
            simp only [h2, if_false]
            exact hrw j av hj
      · simp only [hrr, if_false] at he
        obtain ⟨⟨hz', hcc'⟩, hrw'⟩ := hrel row' e he
        refine ⟨⟨hz', hcc'⟩, fun j av hj => ?_⟩
        obtain ⟨y, h1, h2⟩ := hrw' j av hj
        refine ⟨y, ?_, h2⟩
        rw [get_setCells _ _ _ _ (by simp; omega)]
        have hjz : j < z := by rw [← hz']; exact (List.getElem?_eq_some_iff.1 hj).1
        have h3 : ¬ (x0 + row * z + off ≤ x0 + row' * z + j ∧ x0 + row' * z + j < x0 + row * z + off + v.cells.toList.length) := by
          simp only [Array.length_toList]
          rcases Nat.lt_or_gt_of_ne hrr with hlt | hlt
          · have : (row + 1) * z ≤ row' * z := Nat.mul_le_mul_right _ hlt
            rw [Nat.add_mul] at this
            omega
          · have : (row' + 1) * z ≤ row * z := Nat.mul_le_mul_right _ hlt
            rw [Nat.add_mul] at this
            omega
        simp only [h3, if_false]
        exact h1
    · rcases flat_set hq with h1 | h1
      · exact .inl h1
      · obtain ⟨av, hav, hq'⟩ := refsL_mem.1 h1
        obtain ⟨i, hi⟩ := List.mem_iff_getElem?.1 hav
        rw [hs3 i] at hi
        split at hi
        · exact .inr (refsL_mem.2 ⟨av, List.mem_of_getElem? hi, hq'⟩)
        · exact .inl (List.mem_flatMap.2 ⟨cs, List.mem_of_getElem? hrow, refsL_mem.2 ⟨av, List.mem_of_getElem? hi, hq'⟩⟩)

end
end Go.Proofs.YtfahpmlckobpmaaGreatDoor.Pi
/-
  What is made: variables, boxes, structs, slices; places; parts.
-/
namespace Go.Proofs.YtfahpmlckobpmaaGreatDoor.Pi
open Go

/-- what an operation comes to -/
def OpRes (P : Program) (s : Sem Next) (g : G) (h : AH) (W : World) (v : AV) (h' : AH) : Prop :=
  ∃ x w' g', (s.run P W = .ok (.value x) w' ∨ (s.run P W = .ok .skip w' ∧ x = undef)) ∧ HRel g' h' w' ∧ Ext g h W g' h' w' ∧ VRel g' w' (U g' h') v x

/-- .. one that tells a value -/
def VRes (P : Program) (s : Sem Value) (g : G) (h : AH) (W : World) (v : AV) (h' : AH) : Prop :=
  ∃ x w' g', s.run P W = .ok x w' ∧ HRel g' h' w' ∧ Ext g h W g' h' w' ∧ VRel g' w' (U g' h') v x

theorem OpRes.ofV {P : Program} {s : Sem Value} {g : G} {h : AH} {W : World} {v : AV} {h' : AH} (hv : VRes P s g h W v h') : OpRes P (do pure (.value (← s))) g h W v h' := by
  obtain ⟨x, w', g', h1, h2, h3, h4⟩ := hv
  exact ⟨x, w', g', .inl (by rw [Sem.run_bind, h1]; rfl), h2, h3, h4⟩

theorem VRes.same {P : Program} {s : Sem Value} {g : G} {h : AH} {W : World} {v : AV} {x : Value} (hr : HRel g h W) (h1 : s.run P W = .ok x W) (h2 : VRel g W (U g h) v x) : VRes P s g h W v h :=
  ⟨x, W, g, h1, hr, Ext.refl _ _ _, h2⟩

/-- the zero value's cells -/
def zeroOK (P : Program) (t : TypeId) (z : List AV) : Bool :=
  match P.info? t with
  | some i => match i.zero with
    | some v => cstL z v.cells.toList && (i.size == z.length)
    | none => false
  | none => false

section
variable {P : Program} {g : G} {h : AH} {W : World}

theorem run_zero {t : TypeId} {z : List AV} (hz : zeroOK P t z = true) : ∃ v, (zeroValue t).run P W = .ok v W ∧ (∀ av ∈ z, av.isCell = true) ∧ z.length = v.cells.size ∧
    (∀ (g : G) (W : World) (V : Nat → Nat → Prop) (i : Nat) (av : AV) (x : Value), z[i]? = some av → v.cells[i]? = some x → VRel g W V av x) ∧ (sizeOf t).run P W = .ok z.length W := by
  unfold zeroOK at hz
  split at hz
  · rename_i i hi
    split at hz
    · rename_i v hv
      simp only [Bool.and_eq_true, beq_iff_eq] at hz
      obtain ⟨hz, hsz⟩ := hz
      refine ⟨v, by unfold zeroValue typeInfo; simp [hi, hv], cstL_cell hz, by simpa using (cstL_rel (g := ⟨fun _ => none, fun _ => 0, fun _ => False⟩) (W := W) (V := fun _ _ => True) hz).1, fun g W V i av x h1 h2 => (cstL_rel hz).2 i av x h1 (by simpa using h2), by unfold sizeOf typeInfo; simp [hi, hsz]⟩
    · cases hz
  · cases hz

/-- a block that is a variable, or a row of elements -/
theorem push_rows (hr : HRel g h W) {W' : World} (m : More W W') {z : Nat} {rs : List (List AV)} {b : Nat} {c : Array Value} {t : TypeId} (cp : Nat) (hcp : cp * z ≤ c.size) (hb : W.heap.size ≤ b) (hh : W'.heap[b]? = some (.cells c t (0, 0)))
    (hrel : ∀ (row : Nat) (e : List AV), rs[row]? = some e → (e.length = z ∧ ∀ av ∈ e, av.isCell = true) ∧ ∀ (j : Nat) (av : AV), e[j]? = some av → ∃ v, c[row * z + j]? = some v ∧ VRel g W (U g h) av v)
    (hesc : ∀ q ∈ rs.flatMap refsL, q ≤ h.bl.length) :
    ∃ g', HRel g' (h.push (.rows z rs)) W' ∧ Ext g h W g' (h.push (.rows z rs)) W' ∧ g'.mb h.bl.length = some (b, 0, z) ∧ g'.cp h.bl.length = cp := by
  obtain ⟨g', h1, h2, h3, h4⟩ := push_sound hr m (.rows z rs) b 0 z cp hb (fun g' V' hg hk hm hc => ⟨b, 0, c, t, hm, hh, by rw [hc]; omega, fun row e he => ⟨(hrel row e he).1, fun j av hj => by
    obtain ⟨v, h1, h2⟩ := (hrel row e he).2 j av hj
    exact ⟨v, by simpa using h1, h2.mono hk hg⟩⟩⟩) hesc
  exact ⟨g', h1, h2, h3, h4⟩

theorem refs_lt {V : Nat → Nat → Prop} (hr : HRel g h W) {a : AV} {v : Value} (hv : VRel g W V a v) : ∀ q ∈ a.refs, q < h.bl.length := by
  have dom : ∀ id x, g.mb id = some x → id < h.bl.length := fun id x hx => Nat.lt_of_not_le fun hle => by rw [hr.dom id hle] at hx; cases hx
  induction hv with
  | any v => simp [AV.refs]
  | pure av v hp =>
    have : av.refs = [] := by
      clear dom hr
      induction hp with
      | ref b off cells val h1 h2 ih =>
        simp only [AV.refs]
        apply List.eq_nil_iff_forall_not_mem.2
        intro q hq
        obtain ⟨a, ha, hq'⟩ := refsL_mem.1 hq
        obtain ⟨i, hi⟩ := List.mem_iff_getElem?.1 ha
        rw [ih i a hi] at hq'; cases hq'
      | fn f a b x y ha hb h1 h2 ih1 ih2 =>
        simp only [AV.refs]
        apply List.eq_nil_iff_forall_not_mem.2
        intro q hq
        rcases List.mem_append.1 hq with hq | hq
        · obtain ⟨c, hc, hq'⟩ := refsL_mem.1 hq
          obtain ⟨i, hi⟩ := List.mem_iff_getElem?.1 hc
          have hlt : i < x.size := by rw [← ha]; exact (List.getElem?_eq_some_iff.1 hi).1
          rw [ih1 i c x[i] hi (by simp [hlt])] at hq'; cases hq'
        · obtain ⟨c, hc, hq'⟩ := refsL_mem.1 hq
          obtain ⟨i, hi⟩ := List.mem_iff_getElem?.1 hc
          have hlt : i < y.size := by rw [← hb]; exact (List.getElem?_eq_some_iff.1 hi).1
          rw [ih2 i c y[i] hi (by simp [hlt])] at hq'; cases hq'
      | iface t av v _ ih => simpa [AV.refs] using ih
      | _ => rfl
    simp [this]
  | ref b off cells val hc h1 h2 ih =>
    intro q hq
    simp only [AV.refs] at hq
    obtain ⟨a, ha, hq'⟩ := refsL_mem.1 hq
    obtain ⟨i, hi⟩ := List.mem_iff_getElem?.1 ha
    exact ih i a hi q hq'
  | ptr id row off r x z hm => intro q hq; simp [AV.refs] at hq; subst hq; exact dom _ _ hm
  | ms id s n cap r x z _ _ hm _ => intro q hq; simp [AV.refs] at hq; subst hq; exact dom _ _ hm
  | vsx e a n _ => simp [AV.refs]
  | vsg e id s r c z n cap _ _ hm _ => intro q hq; simp [AV.refs] at hq; subst hq; exact dom _ _ hm
  | map id r x z hm => intro q hq; simp [AV.refs] at hq; subst hq; exact dom _ _ hm
  | iface t av v _ ih => simpa [AV.refs] using ih
  | fn f a b x y ha hb h1 h2 ih1 ih2 =>
    intro q hq
    simp only [AV.refs] at hq
    rcases List.mem_append.1 hq with hq | hq
    · obtain ⟨c, hc, hq'⟩ := refsL_mem.1 hq
      obtain ⟨i, hi⟩ := List.mem_iff_getElem?.1 hc
      have hlt : i < x.size := by rw [← ha]; exact (List.getElem?_eq_some_iff.1 hi).1
      exact ih1 i c x[i] hi (by simp [hlt]) q hq'
    · obtain ⟨c, hc, hq'⟩ := refsL_mem.1 hq
      obtain ⟨i, hi⟩ := List.mem_iff_getElem?.1 hc
      have hlt : i < y.size := by rw [← hb]; exact (List.getElem?_eq_some_iff.1 hi).1
      exact ih2 i c y[i] hi (by simp [hlt]) q hq'
  | agg a x hc ha h1 ih =>
    intro q hq
    simp only [AV.refs] at hq
    obtain ⟨c, hc, hq'⟩ := refsL_mem.1 hq
    obtain ⟨i, hi⟩ := List.mem_iff_getElem?.1 hc
    have hlt : i < x.size := by rw [← ha]; exact (List.getElem?_eq_some_iff.1 hi).1
    exact ih i c x[i] hi (by simp [hlt]) q hq'
  | tup a x ha h1 ih =>
    intro q hq
    simp only [AV.refs] at hq
    obtain ⟨c, hc, hq'⟩ := refsL_mem.1 hq
    obtain ⟨i, hi⟩ := List.mem_iff_getElem?.1 hc
    have hlt : i < x.size := by rw [← ha]; exact (List.getElem?_eq_some_iff.1 hi).1
    exact ih i c x[i] hi (by simp [hlt]) q hq'

theorem refsL_cells (hr : HRel g h W) {a : AV} {v : Value} (hv : VRel g W (U g h) a v) {cs : List AV} (hc : cellsOf a = some cs) : ∀ q ∈ refsL cs, q < h.bl.length := by
  obtain ⟨_, h2, h3⟩ := cells_rel hv hc
  intro q hq
  obtain ⟨c, hc', hq'⟩ := refsL_mem.1 hq
  obtain ⟨i, hi⟩ := List.mem_iff_getElem?.1 hc'
  have hlt : i < v.cells.size := by rw [← h2]; exact (List.getElem?_eq_some_iff.1 hi).1
  exact refs_lt hr (h3 i c _ hi (by simp [hlt]; rfl)) q hq'

theorem alloc_sound (hr : HRel g h W) {t : TypeId} {z : List AV} (hz : zeroOK P t z = true) (old : Value) :
    VRes P (Instr.alloc t true old) g h W (.ptr h.next 0 0) (h.push (.rows z.length [z])) := by
  obtain ⟨v, h1, h2, h3, h4, _⟩ := run_zero (P := P) (W := W) hz
  obtain ⟨g', hr', he, hm, _⟩ := push_rows hr ((More.refl W).alloc (.cells v.cells t)) (z := z.length) (rs := [z]) (b := W.heap.size) (c := v.cells) (t := t) 1 (by omega) (Nat.le_refl _)
    (by show (W.heap.push _)[W.heap.size]? = _; simp) (fun row e he => by
      cases row with
      | zero =>
        simp at he; subst he
        refine ⟨⟨rfl, h2⟩, fun j av hj => ?_⟩
        have hlt : j < v.cells.size := by rw [← h3]; exact (List.getElem?_eq_some_iff.1 hj).1
        exact ⟨v.cells[j], by simp [hlt], h4 _ _ _ j av _ hj (by simp [hlt])⟩
      | succ row => simp at he) (by
      intro q hq
      simp at hq
      obtain ⟨a, ha, hq'⟩ := refsL_mem.1 hq
      obtain ⟨i, hi⟩ := List.mem_iff_getElem?.1 ha
      have hlt : i < v.cells.size := by rw [← h3]; exact (List.getElem?_eq_some_iff.1 hi).1
      exact Nat.le_of_lt (refs_lt hr (h4 g W (U g h) i a v.cells[i] hi (by simp [hlt])) q hq'))
  refine ⟨.pointer (some ⟨W.heap.size, 0, none⟩), W.alloc (.cells v.cells t), g', ?_, hr', he, ?_⟩
  · have : (Instr.alloc t true old).run P W = ((zeroValue t).run P W).andThen fun z w => ((newVar t z).run P w).andThen fun a w => .ok (.pointer (some a)) w := by
      unfold Instr.alloc
      cases old <;> (try rename_i a; cases a) <;> simp [Sem.run_bind]
    rw [this, h1]
    simp [newVar, newRow, run_newObj]
  · have := VRel.ptr (g := g') (W := W.alloc (.cells v.cells t)) (V := U g' (h.push (.rows z.length [z]))) h.bl.length 0 0 W.heap.size 0 z.length hm
    simpa [AH.next] using this

theorem boxm_sound (hr : HRel g h W) {t : TypeId} {a : AV} {v : Value} (hv : VRel g W (U g h) a v) {cs : List AV} (hc : cellsOf a = some cs) :
    VRes P (Instr.box t v) g h W (.ptr h.next 0 0) (h.push (.rows cs.length [cs])) := by
  obtain ⟨h2, h3, h4⟩ := cells_rel hv hc
  obtain ⟨g', hr', he, hm, _⟩ := push_rows hr ((More.refl W).alloc (.cells v.cells t)) (z := cs.length) (rs := [cs]) (b := W.heap.size) (c := v.cells) (t := t) 1 (by omega) (Nat.le_refl _)
    (by show (W.heap.push _)[W.heap.size]? = _; simp) (fun row e he => by
      cases row with
      | zero =>
        simp at he; subst he
        refine ⟨⟨rfl, h2⟩, fun j av hj => ?_⟩
        have hlt : j < v.cells.size := by rw [← h3]; exact (List.getElem?_eq_some_iff.1 hj).1
        exact ⟨v.cells[j], by simp [hlt], h4 j av _ hj (by simp [hlt])⟩
      | succ row => simp at he) (by
      intro q hq
      simp at hq
      exact Nat.le_of_lt (refsL_cells hr hv hc q hq))
  refine ⟨.pointer (some ⟨W.heap.size, 0, none⟩), W.alloc (.cells v.cells t), g', ?_, hr', he, ?_⟩
  · simp [Instr.box, newVar, newRow, run_newObj]
  · have := VRel.ptr (g := g') (W := W.alloc (.cells v.cells t)) (V := U g' (h.push (.rows cs.length [cs]))) h.bl.length 0 0 W.heap.size 0 cs.length hm
    simpa [AH.next] using this

theorem strip_cell {a : AV} (h : a.isCell = true) : a.strip.isCell = true := by cases a <;> first | rfl | cases h

/-- a new row that nobody writes -/
theorem boxv_sound (hr : HRel g h W) {t : TypeId} {a : AV} {v : Value} (hv : VRel g W (U g h) a v) {cs : List AV} (hc : cellsOf a = some cs) :
    VRes P (Instr.box t v) g h W (.ref (stripL cs)) h := by
  obtain ⟨h2, h3, h4⟩ := cells_rel hv hc
  obtain ⟨hr', he⟩ := more_sound hr ((More.refl W).alloc (.cells v.cells t))
  refine ⟨.pointer (some ⟨W.heap.size, 0, none⟩), W.alloc (.cells v.cells t), g, by simp [Instr.box, newVar, newRow, run_newObj], hr', he, ?_⟩
  refine mk_ref (fun av hm => ?_) (fun i av hi => ?_)
  · obtain ⟨b, hb, rfl⟩ := List.mem_map.1 hm
    exact strip_cell (h2 b hb)
  · simp only [stripL, List.getElem?_map] at hi
    cases hcs : cs[i]? with
    | none => simp [hcs] at hi
    | some b =>
      simp [hcs] at hi; subst hi
      have hlt : i < v.cells.size := by rw [← h3]; exact (List.getElem?_eq_some_iff.1 hcs).1
      refine ⟨v.cells[i], ?_, ?_, ?_⟩
      · rw [Nat.zero_add]
        have := U_new hr (Nat.le_refl W.heap.size) i
        exact this
      · rw [Nat.zero_add]; simp [hlt]
      · exact ((h4 i b _ hcs (by simp [hlt])).ext he).strip

end
end Go.Proofs.YtfahpmlckobpmaaGreatDoor.Pi
/-
  Structs and slices out of their parts.
-/
namespace Go.Proofs.YtfahpmlckobpmaaGreatDoor.Pi
open Go

inductive F2 {α β : Type} (R : α → β → Prop) : List α → List β → Prop
  | nil : F2 R [] []
  | cons {a : α} {b : β} {l : List α} {m : List β} : R a b → F2 R l m → F2 R (a :: l) (b :: m)

theorem F2.imp {α β : Type} {R S : α → β → Prop} (f : ∀ a b, R a b → S a b) {l : List α} {m : List β} (h : F2 R l m) : F2 S l m := by
  induction h with
  | nil => exact .nil
  | cons h _ ih => exact .cons (f _ _ h) ih

section
variable {P : Program} {g : G} {h : AH} {W : World}

theorem run_mapM_eq {α β : Type} {f : α → Sem β} {k : α → β} : ∀ {l : List α} {W : World}, (∀ a ∈ l, (f a).run P W = .ok (k a) W) → (l.mapM f).run P W = .ok (l.map k) W
  | [], W, _ => by simp
  | a :: l, W, hh => by
    rw [List.mapM_cons, Sem.run_bind, hh a (by simp)]
    simp only [Result.andThen_ok]
    rw [Sem.run_bind, run_mapM_eq (l := l) fun b hb => hh b (by simp [hb])]
    simp

theorem run_mapM_arr {α β : Type} {f : α → Sem β} {k : α → β} {l : Array α} (hh : ∀ a ∈ l, (f a).run P W = .ok (k a) W) : (l.mapM f).run P W = .ok (l.map k) W := by
  rw [Array.mapM_eq_mapM_toList, Sem.run_map, run_mapM_eq (k := k) (fun a ha => hh a (by simpa using ha))]
  simp only [Result.andThen_ok]
  congr 1
  apply Array.ext'
  simp

/-- cells beside an abstract list of them -/
def LayA (g : G) (W : World) (V : Nat → Nat → Prop) (cs : List AV) (c : Array Value) : Prop :=
  (∀ av ∈ cs, av.isCell = true) ∧ cs.length = c.size ∧ ∀ (i : Nat) (av : AV) (x : Value), cs[i]? = some av → c[i]? = some x → VRel g W V av x

theorem foldl_setCells (off : Nat) : ∀ (l : List Value) (k : Nat) (c : Array Value), (l.zipIdx k).foldl (fun cs (p : Value × Nat) => cs.setIfInBounds (off + p.2) p.1) c = setCells c (off + k) l
  | [], _, _ => rfl
  | v :: l, k, c => by
    simp only [List.zipIdx_cons, List.foldl_cons, setCells]
    rw [foldl_setCells off l (k + 1)]
    rfl

theorem fill_one (off : Nat) (v : Value) (c : Array Value) : v.cells.zipIdx.foldl (fun cs (p : Value × Nat) => cs.setIfInBounds (off + p.2) p.1) c = setCells c off v.cells.toList := by
  rw [← Array.foldl_toList]
  have : v.cells.zipIdx.toList = v.cells.toList.zipIdx := by simp
  rw [this]
  simpa using foldl_setCells off v.cells.toList 0 c

theorem LayA.splice {V : Nat → Nat → Prop} {cs new cs' : List AV} {c : Array Value} (hl : LayA g W V cs c) {n : Array Value} (hn : LayA g W V new n) {off : Nat} (hs : splice cs off new = some cs') :
    off + n.size ≤ c.size ∧ LayA g W V cs' (setCells c off n.toList) := by
  obtain ⟨h1, h2, h3⟩ := splice_get hs
  have hle : off + n.toList.length ≤ c.size := by simp only [Array.length_toList]; rw [← hn.2.1, ← hl.2.1]; exact h1
  refine ⟨by simpa using hle, fun av hm => ?_, by rw [size_setCells, h2, hl.2.1], fun i av x hi hx => ?_⟩
  · obtain ⟨i, hi⟩ := List.mem_iff_getElem?.1 hm
    rw [h3 i] at hi
    split at hi
    · exact hn.1 av (List.mem_of_getElem? hi)
    · exact hl.1 av (List.mem_of_getElem? hi)
  · rw [get_setCells _ _ _ _ hle] at hx
    rw [h3 i] at hi
    have e : n.toList.length = new.length := by simp [hn.2.1]
    simp only [e] at hx
    split at hi
    · rename_i hc
      simp only [hc, and_self, if_true] at hx
      exact hn.2.2 _ av x hi (by simpa using hx)
    · rename_i hc
      simp only [hc, if_false] at hx
      exact hl.2.2 i av x hi hx

theorem fill_sound {V : Nat → Nat → Prop} {place : Nat → Option (Nat × Nat)} : ∀ {parts : List (Nat × Value)} {ps : List (Nat × List AV)} {c : Array Value} {cs cs' : List AV},
    F2 (fun (p : Nat × Value) (q : Nat × List AV) => place p.1 = some (q.1, q.2.length) ∧ LayA g W V q.2 p.2.cells) parts ps → LayA g W V cs c → splices cs ps = some cs' →
    ∃ c', Instr.fill place c parts = some c' ∧ LayA g W V cs' c'
  | [], [], c, cs, cs', _, hl, hs => by
    simp [splices] at hs; subst hs
    exact ⟨c, rfl, hl⟩
  | (i, v) :: parts, (off, l) :: ps, c, cs, cs', hf, hl, hs => by
    cases hf with
    | cons h1 h2 =>
      obtain ⟨h3, h4⟩ := h1
      simp only [splices] at hs
      obtain ⟨c1, h5, h6⟩ := bind_some_iff.1 hs
      obtain ⟨h7, h8⟩ := hl.splice h4 h5
      obtain ⟨c', h9, h10⟩ := fill_sound h2 h8 h6
      refine ⟨c', ?_, h10⟩
      simp only at h3 h4 h7
      unfold Instr.fill
      simp only [h3]
      rw [if_neg (by simp only [Bool.or_eq_true, decide_eq_true_eq, not_or]; exact ⟨fun hh => hh h4.2.1.symm, by omega⟩), fill_one]
      exact h9
  | [], q :: ps, _, _, _, hf, _, _ => by cases hf
  | p :: parts, [], _, _, _, hf, _, _ => by cases hf

/-- a struct's parts, or an array's -/
def placeOf (P : Program) (t : TypeId) (i : Nat) : Option (Nat × Nat) :=
  match P.underlying t with
  | some (.struct fields) => (fields[i]?).bind fun f => (P.info? f.type).map fun x => (f.offset, x.size)
  | some (.array _ e) => (P.info? e).map fun x => (i * x.size, x.size)
  | _ => none

/-- all the fields' types are there -/
def fieldsOK (P : Program) (t : TypeId) : Bool :=
  match P.underlying t with
  | some (.struct fields) => fields.all fun f => (P.info? f.type).isSome
  | some (.array _ e) => (P.info? e).isSome
  | _ => false

theorem LayA.of {V : Nat → Nat → Prop} {a : AV} {v : Value} (hv : VRel g W V a v) {cs : List AV} (hc : cellsOf a = some cs) : LayA g W V cs v.cells := cells_rel hv hc

theorem build_sound (hr : HRel g h W) {t : TypeId} {z : List AV} (hz : zeroOK P t z = true) (hf : fieldsOK P t = true) {parts : List (Nat × Value)} {ps : List (Nat × List AV)} {cs : List AV}
    (hp : F2 (fun (p : Nat × Value) (q : Nat × List AV) => placeOf P t p.1 = some (q.1, q.2.length) ∧ LayA g W (U g h) q.2 p.2.cells) parts ps) (hs : splices z ps = some cs) :
    VRes P (Instr.build t parts.toArray) g h W (.agg cs) h := by
  obtain ⟨v, h1, h2, h3, h4, _⟩ := run_zero (P := P) (W := W) hz
  have hl : LayA g W (U g h) z v.cells := ⟨h2, h3, h4 g W (U g h)⟩
  unfold fieldsOK at hf
  split at hf
  · rename_i fields hu
    have hm : (fields.mapM fun f => do pure (f.offset, ← sizeOf f.type) : Sem _).run P W = .ok (fields.map fun f => (f.offset, ((P.info? f.type).map (·.size)).getD 0)) W := by
      refine run_mapM_arr fun f hfm => ?_
      have := Array.all_eq_true'.1 hf f hfm
      cases hi : P.info? f.type with
      | none => simp [hi] at this
      | some i => simp [sizeOf, typeInfo, hi]
    have hp' : F2 (fun (p : Nat × Value) (q : Nat × List AV) => ((fields.map fun f => (f.offset, ((P.info? f.type).map (·.size)).getD 0))[p.1]?) = some (q.1, q.2.length) ∧ LayA g W (U g h) q.2 p.2.cells) parts ps := by
      refine F2.imp (fun p q ⟨a, b⟩ => ⟨?_, b⟩) hp
      unfold placeOf at a
      simp only [hu] at a
      cases hfi : fields[p.1]? with
      | none => simp [hfi] at a
      | some f =>
        simp only [hfi, Option.bind_some] at a
        cases hi : P.info? f.type with
        | none => simp [hi] at a
        | some i => simp [hi] at a; simp [hfi, hi, a]
    obtain ⟨c', h5, h6⟩ := fill_sound hp' hl hs
    refine VRes.same hr (x := .agg c') ?_ (.agg _ _ h6.1 h6.2.1 h6.2.2)
    unfold Instr.build
    rw [Sem.run_bind, h1]
    simp only [Result.andThen_ok]
    rw [Sem.run_bind, run_underlying hu]
    simp only [Result.andThen_ok]
    rw [Sem.run_bind, hm]
    simp only [Result.andThen_ok, h5]
    rfl
  · rename_i n e hu
    cases hi : P.info? e with
    | none => simp [hi] at hf
    | some i =>
      have hp' : F2 (fun (p : Nat × Value) (q : Nat × List AV) => (some (p.1 * i.size, i.size)) = some (q.1, q.2.length) ∧ LayA g W (U g h) q.2 p.2.cells) parts ps := by
        refine F2.imp (fun p q ⟨a, b⟩ => ⟨?_, b⟩) hp
        unfold placeOf at a
        simpa [hu, hi] using a
      obtain ⟨c', h5, h6⟩ := fill_sound (place := fun j => some (j * i.size, i.size)) hp' hl hs
      refine VRes.same hr (x := .agg c') ?_ (.agg _ _ h6.1 h6.2.1 h6.2.2)
      unfold Instr.build
      rw [Sem.run_bind, h1]
      simp only [Result.andThen_ok]
      rw [Sem.run_bind, run_underlying hu]
      simp only [Result.andThen_ok]
      rw [Sem.run_bind]
      have : (sizeOf e).run P W = .ok i.size W := by simp [sizeOf, typeInfo, hi]
      rw [this]
      simp only [Result.andThen_ok, h5]
      rfl
  · cases hf

/-! ### slices out of elements -/
/-- cells beside rows of so many each -/
def LayE (g : G) (W : World) (V : Nat → Nat → Prop) (z : Nat) (e : List (List AV)) (c : Array Value) : Prop :=
  (∀ x ∈ e, x.length = z ∧ ∀ av ∈ x, av.isCell = true) ∧ c.size = e.length * z ∧ ∀ (i : Nat) (x : List AV) (j : Nat) (av : AV), e[i]? = some x → x[j]? = some av → ∃ y, c[i * z + j]? = some y ∧ VRel g W V av y

theorem LayE.set {V : Nat → Nat → Prop} {z : Nat} {e : List (List AV)} {c : Array Value} (hl : LayE g W V z e c) {l : List AV} {n : Array Value} (hn : LayA g W V l n) (hz : l.length = z) {i : Nat} (hi : i < e.length) :
    i * z + n.size ≤ c.size ∧ LayE g W V z (e.set i l) (setCells c (i * z) n.toList) := by
  have hmul : (i + 1) * z ≤ e.length * z := Nat.mul_le_mul_right _ hi
  rw [Nat.add_mul] at hmul
  have hnz : n.size = z := by rw [← hn.2.1]; exact hz
  have hle : i * z + n.toList.length ≤ c.size := by simp; rw [hl.2.1]; omega
  refine ⟨by simpa using hle, fun x hx => ?_, by rw [size_setCells, List.length_set, hl.2.1], fun k x j av hk hj => ?_⟩
  · rcases List.mem_or_eq_of_mem_set hx with h1 | h1
    · exact hl.1 x h1
    · subst h1; exact ⟨hz, hn.1⟩
  · rw [get_setCells _ _ _ _ hle]
    simp only [Array.length_toList]
    rw [List.getElem?_set] at hk
    by_cases hik : i = k
    · subst hik
      simp only [hi, if_true] at hk
      simp at hk; subst hk
      have hjl : j < l.length := (List.getElem?_eq_some_iff.1 hj).1
      have h1 : i * z ≤ i * z + j ∧ i * z + j < i * z + n.size := by omega
      simp only [h1, and_self, if_true, Nat.add_sub_cancel_left]
      have hjn : j < n.size := by omega
      exact ⟨n[j], by simp [hjn], hn.2.2 j av _ hj (by simp [hjn])⟩
    · simp only [hik, if_false] at hk
      have hjz : j < z := by rw [← (hl.1 x (List.mem_of_getElem? hk)).1]; exact (List.getElem?_eq_some_iff.1 hj).1
      have h1 : ¬ (i * z ≤ k * z + j ∧ k * z + j < i * z + n.size) := by
        rcases Nat.lt_or_gt_of_ne hik with h2 | h2
        · have : (i + 1) * z ≤ k * z := Nat.mul_le_mul_right _ h2
          rw [Nat.add_mul] at this; omega
        · have : (k + 1) * z ≤ i * z := Nat.mul_le_mul_right _ h2
          rw [Nat.add_mul] at this; omega
      simp only [h1, if_false]
      exact hl.2.2 k x j av hk hj

theorem fillE_sound {V : Nat → Nat → Prop} {z : Nat} : ∀ {parts : List (Nat × Value)} {ps : List (Nat × List AV)} {c : Array Value} {e : List (List AV)},
    F2 (fun (p : Nat × Value) (q : Nat × List AV) => p.1 = q.1 ∧ q.2.length = z ∧ p.1 < e.length ∧ LayA g W V q.2 p.2.cells) parts ps → LayE g W V z e c →
    ∃ c', Instr.fill (fun i => some (i * z, z)) c parts = some c' ∧ LayE g W V z (ps.foldl (fun e p => e.set p.1 p.2) e) c'
  | [], [], c, e, _, hl => ⟨c, rfl, hl⟩
  | (i, v) :: parts, (k, l) :: ps, c, e, hf, hl => by
    cases hf with
    | cons h1 h2 =>
      obtain ⟨h3, h4, h5, h6⟩ := h1
      simp only at h3 h4 h5 h6
      subst h3
      obtain ⟨h7, h8⟩ := hl.set h6 h4 h5
      obtain ⟨c', h9, h10⟩ := fillE_sound (e := e.set i l) (by simpa using h2) h8
      refine ⟨c', ?_, h10⟩
      unfold Instr.fill
      simp only
      have hsz : v.cells.size = z := by rw [← h6.2.1]; exact h4
      rw [if_neg (by simp only [Bool.or_eq_true, decide_eq_true_eq, not_or]; exact ⟨fun hh => hh hsz, by omega⟩), fill_one]
      exact h9
  | [], q :: ps, _, _, hf, _ => by cases hf
  | p :: parts, [], _, _, hf, _ => by cases hf

theorem layE_zero {V : Nat → Nat → Prop} {z : List AV} {v : Value} (h2 : ∀ av ∈ z, av.isCell = true) (h3 : z.length = v.cells.size)
    (h4 : ∀ (i : Nat) (av : AV) (x : Value), z[i]? = some av → v.cells[i]? = some x → VRel g W V av x) (n : Nat) :
    LayE g W V z.length (List.replicate n z) ((Array.range (n * z.length)).map (v.cells[· % v.cells.size]!)) := by
  refine ⟨fun x hx => ?_, by simp, fun i x j av hi hj => ?_⟩
  · obtain rfl := (List.mem_replicate.1 hx).2; exact ⟨rfl, h2⟩
  · have hin : i < n := by have := (List.getElem?_eq_some_iff.1 hi).1; simpa using this
    have hx : x = z := by rw [List.getElem?_replicate] at hi; simp [hin] at hi; exact hi.symm
    subst hx
    have hj' : j < x.length := (List.getElem?_eq_some_iff.1 hj).1
    have hmul : (i + 1) * x.length ≤ n * x.length := Nat.mul_le_mul_right _ hin
    rw [Nat.add_mul] at hmul
    have hlt : i * x.length + j < n * x.length := by omega
    have hmod : (i * x.length + j) % v.cells.size = j := by
      rw [← h3, Nat.mul_comm, Nat.mul_add_mod]; exact Nat.mod_eq_of_lt hj'
    have hjv : j < v.cells.size := by omega
    refine ⟨v.cells[j], ?_, h4 j av _ hj (by simp [hjv])⟩
    simp [hlt, hmod, hjv]

theorem run_buildSlice {t e : TypeId} (hu : P.underlying t = some (.slice e)) {z : List AV} (hz : zeroOK P e z = true) {len : Nat} (hb : len * z.length ≤ 16777216)
    {parts : List (Nat × Value)} {ps : List (Nat × List AV)}
    (hp : F2 (fun (p : Nat × Value) (q : Nat × List AV) => p.1 = q.1 ∧ q.2.length = z.length ∧ p.1 < len ∧ LayA g W (U g h) q.2 p.2.cells) parts ps) :
    ∃ c, (Instr.buildSlice t len parts.toArray).run P W = .ok (.slice (some ⟨W.heap.size, 0, none⟩) len len) (W.alloc (.cells c e)) ∧
      LayE g W (U g h) z.length (ps.foldl (fun e p => e.set p.1 p.2) (List.replicate len z)) c := by
  obtain ⟨v, h1, h2, h3, h4, h5⟩ := run_zero (P := P) (W := W) hz
  obtain ⟨c', h6, h7⟩ := fillE_sound (e := List.replicate len z) (by simpa using hp) (layE_zero h2 h3 (h4 g W (U g h)) len)
  refine ⟨c', ?_, h7⟩
  unfold Instr.buildSlice
  rw [Sem.run_bind, run_underlying hu]
  simp only [Result.andThen_ok]
  rw [Sem.run_bind, h5]
  simp only [Result.andThen_ok]
  have hb' : ¬ (len * z.length > 2 ^ 24) := by simpa using hb
  by_cases h0 : len * z.length = 0
  · have e0 : (Array.range (len * z.length)).map (v.cells[· % v.cells.size]!) = (Array.range (len * z.length)).map ((#[] : Array Value)[· % (#[] : Array Value).size]!) := by rw [h0]; simp
    rw [e0] at h6
    rw [h0] at h6
    simp only [hb', if_false, h0, if_true, Sem.run_bind, Sem.run_pure, Result.andThen_ok]
    have e1 : (Array.range 0).map ((#[] : Array Value)[· % (#[] : Array Value).size]!) = #[] := by simp
    rw [e1] at h6
    have e2 : ¬ ((0 : Nat) > 2 ^ 24) := by decide
    simp only [e1, e2, if_false, h6, newRow, Sem.run_bind, run_newObj, Sem.run_pure, Result.andThen_ok]
    rfl
  · simp only [hb', if_false, h0, Sem.run_bind, h1, Sem.run_pure, Result.andThen_ok, h6]
    simp [newRow, run_newObj]

theorem bslice_sound (hr : HRel g h W) {t e : TypeId} (hu : P.underlying t = some (.slice e)) {z : List AV} (hz : zeroOK P e z = true) {len : Nat} (hb : len * z.length ≤ 16777216)
    {parts : List (Nat × Value)} {ps : List (Nat × List AV)} {el : List (List AV)} (he : ps.foldl (fun e p => e.set p.1 p.2) (List.replicate len z) = el) (hlen : el.length = len) (hpure : el.all pureL = true)
    (hp : F2 (fun (p : Nat × Value) (q : Nat × List AV) => p.1 = q.1 ∧ q.2.length = z.length ∧ p.1 < len ∧ LayA g W (U g h) q.2 p.2.cells) parts ps) :
    VRes P (Instr.buildSlice t len parts.toArray) g h W (.vs el .exact) h := by
  obtain ⟨c, h1, h2⟩ := run_buildSlice hu hz hb hp
  rw [he] at h2
  obtain ⟨hr', hext⟩ := more_sound hr ((More.refl W).alloc (.cells c e))
  refine ⟨_, _, g, h1, hr', hext, ?_⟩
  subst hlen
  refine .vsx _ _ _ (mk_pvs (z := z.length) (Nat.le_refl _) (fun x hx => (h2.1 x hx).1) fun i x j av hi hj => ?_)
  obtain ⟨y, h3, h4⟩ := h2.2.2 i x j av hi hj
  have hpu : av.pure = true := pureL_get (List.all_eq_true.1 hpure x (List.mem_of_getElem? hi)) hj
  refine ⟨y, ?_, ?_, (h4.ext hext).toP hpu⟩
  · rw [Nat.zero_add]; exact U_new hr (Nat.le_refl _) _
  · rw [Nat.zero_add]; simpa using h3

theorem bslicem_sound (hr : HRel g h W) {t e : TypeId} (hu : P.underlying t = some (.slice e)) {z : List AV} (hz : zeroOK P e z = true) {len : Nat} (hb : len * z.length ≤ 16777216)
    {parts : List (Nat × Value)} {ps : List (Nat × List AV)}
    (hp : F2 (fun (p : Nat × Value) (q : Nat × List AV) => p.1 = q.1 ∧ q.2.length = z.length ∧ p.1 < len ∧ LayA g W (U g h) q.2 p.2.cells) parts ps) :
    VRes P (Instr.buildSlice t len parts.toArray) g h W (.ms h.next 0 len) (h.push (.rows z.length (ps.foldl (fun e p => e.set p.1 p.2) (List.replicate len z)))) := by
  obtain ⟨c, h1, h2⟩ := run_buildSlice hu hz hb hp
  have hfl : ∀ (ps : List (Nat × List AV)) (l : List (List AV)), (ps.foldl (fun e p => e.set p.1 p.2) l).length = l.length := by
    intro ps
    induction ps with
    | nil => intro l; rfl
    | cons p ps ih => intro l; rw [List.foldl_cons, ih]; simp
  obtain ⟨g', hr', hext, hm, hcp⟩ := push_rows hr ((More.refl W).alloc (.cells c e)) (z := z.length) (b := W.heap.size) (c := c) (t := e) len (by rw [h2.2.1, hfl]; simp) (Nat.le_refl _)
    (by show (W.heap.push _)[W.heap.size]? = _; simp) (fun row x hx => ⟨h2.1 x (List.mem_of_getElem? hx), fun j av hj => h2.2.2 row x j av hx hj⟩) (by
      intro q hq
      obtain ⟨x, hx, hq'⟩ := List.mem_flatMap.1 hq
      obtain ⟨a, ha, hq''⟩ := refsL_mem.1 hq'
      obtain ⟨i, hi⟩ := List.mem_iff_getElem?.1 hx
      obtain ⟨j, hj⟩ := List.mem_iff_getElem?.1 ha
      obtain ⟨y, _, h4⟩ := h2.2.2 i x j a hi hj
      exact Nat.le_of_lt (refs_lt hr h4 q hq''))
  refine ⟨_, _, g', h1, hr', hext, ?_⟩
  have := VRel.ms (g := g') (W := W.alloc (.cells c e)) (V := U g' (h.push (.rows z.length (ps.foldl (fun e p => e.set p.1 p.2) (List.replicate len z))))) h.bl.length 0 len len W.heap.size 0 z.length (some ⟨W.heap.size, 0, none⟩) (Nat.le_refl _) hm (.inl ⟨by simp, by rw [hcp]; omega⟩)
  exact this

end
end Go.Proofs.YtfahpmlckobpmaaGreatDoor.Pi
