/-
  The abstract values and the abstract run: a pure interpreter for the model's code, on values without addresses (slices and what is read alone by value, what is written by number).
  Nothing here speaks of the program; what it says of the model's own run stands in the texts behind it.
-/
import GoSem.Dispatch
set_option linter.unusedSimpArgs false
set_option linter.unusedVariables false
set_option linter.unusedSectionVars false
namespace Go.Proofs.YtfahpmlckobpmaaGreatDoor.Pi
open Go

inductive Tok where
  | exact | shared | grow (g start : Nat)
  deriving DecidableEq

inductive AV where
  | any
  | bool (b : Bool)
  | int (k : IntKind) (n : Int)
  | str (s : List Nat)
  | nilp
  | ref (cells : List AV)
  | ptr (id row off : Nat)
  | vs (elems : List (List AV)) (t : Tok)
  | ms (id start len : Nat)
  | nilm
  | map (id : Nat)
  | fn (f : Nat) (first captured : List AV)
  | nilf
  | iface (t : Nat) (v : AV)
  | nili
  | agg (cells : List AV)
  | tup (vs : List AV)
  deriving Inhabited

mutual
def AV.refs : AV → List Nat
  | .ptr id _ _ | .ms id _ _ | .map id => [id]
  | .vs _ (.grow g _) => [g]
  | .ref cs => refsL cs
  | .fn _ a b => refsL a ++ refsL b
  | .iface _ v => v.refs
  | .agg cs => refsL cs
  | .tup cs => refsL cs
  | _ => []
def refsL : List AV → List Nat
  | [] => []
  | v :: r => v.refs ++ refsL r
end

mutual
def AV.pure : AV → Bool
  | .bool _ | .int _ _ | .str _ | .nilp | .nilm | .nilf | .nili => true
  | .vs _ .shared => true
  | .ref cs => pureL cs
  | .fn _ a b => pureL a && pureL b
  | .iface _ v => v.pure
  | _ => false
def pureL : List AV → Bool
  | [] => true
  | v :: r => v.pure && pureL r
end

def AV.isCell : AV → Bool
  | .any | .agg _ | .tup _ => false
  | _ => true

/-- without the right to grow -/
def AV.strip : AV → AV
  | .vs e _ => .vs e .shared
  | v => v

inductive ABlk where
  | rows (esz : Nat) (rs : List (List AV))
  | map (es : List (AV × AV))
  | grow (z front : Nat)
  deriving Inhabited

structure AH where
  bl : List (Option ABlk)
  esc : List (Nat × Nat)

namespace AH
def get (h : AH) (i : Nat) : Option ABlk := (h.bl[i]?).join
def set (h : AH) (i : Nat) (b : ABlk) : AH := { h with bl := h.bl.set i (some b) }
def drop (h : AH) (i : Nat) : AH := { h with bl := h.bl.set i none }
def push (h : AH) (b : ABlk) : AH := { h with bl := h.bl ++ [some b] }
def next (h : AH) : Nat := h.bl.length
/-- what was stored into block b: numbers of younger blocks are noted -/
def note (h : AH) (b : Nat) (rs : List Nat) : AH := { h with esc := (rs.filter (fun r => b < r)).map (fun r => (b, r)) ++ h.esc }
/-- may the blocks from n on be let go? -/
def closed (h : AH) (n : Nat) : Bool := h.esc.all fun e => !(decide (e.1 < n) && decide (n ≤ e.2))
def cut (h : AH) (n : Nat) : AH := ⟨h.bl.take n, h.esc.filter fun e => decide (e.1 < n)⟩
end AH

abbrev Fr := List (Nat × AV)

def fget : Fr → Nat → AV
  | [], _ => .any
  | (i, v) :: r, t => if i = t then v else fget r t

def keepFr (keep : List Nat) (fr : Fr) : Fr := keep.map fun i => (i, fget fr i)

inductive Opd where
  | t (i : Nat)
  | c (v : AV)

def Opd.ev (fr : Fr) : Opd → AV
  | .t i => fget fr i
  | .c v => v

/-- the cells of a value -/
def cellsOf : AV → Option (List AV)
  | .any => none
  | .agg cs => some cs
  | .tup _ => none
  | v => some [v]

def splice (cs : List AV) (off : Nat) (new : List AV) : Option (List AV) :=
  if off + new.length ≤ cs.length then some (cs.take off ++ new ++ cs.drop (off + new.length)) else none

def splices (cs : List AV) : List (Nat × List AV) → Option (List AV)
  | [] => some cs
  | (off, new) :: r => (splice cs off new).bind fun cs => splices cs r

/-- what lies at a place -/
def readAt (agg : Bool) (s : Nat) (cs : List AV) : Option AV :=
  if agg then (if s ≤ cs.length then some (.agg (cs.take s)) else none) else cs.head?

/-- what is held against what -/
inductive EqK where
  | plain | bool | ptr | iface | func | map
  deriving DecidableEq

inductive AOp where
  | mv (x : Opd)
  | pick (c a b : Opd)
  | alloc (zero : List AV)
  | boxv (x : Opd)
  | boxm (x : Opd)
  | build (zero : List AV) (parts : List (Nat × Nat × Opd))
  | bslice (zero : List AV) (len : Nat) (parts : List (Nat × Opd))
  | bslicem (zero : List AV) (len : Nat) (parts : List (Nat × Opd))
  | load (agg : Bool) (s : Nat) (x : Opd)
  | store (s : Nat) (a x : Opd)
  | nilck (x : Opd)
  | bin (kd : EqK) (op : BinOp) (x y : Opd)
  | un (op : UnOp) (x : Opd)
  | conv (k : IntKind) (x : Opd)
  | mkI (t : Nat) (x : Opd)
  | mkF (f : Nat) (first captured : List Opd)
  | mkMap
  | mkSlice (zero : List AV) (len cap : Opd)
  | mkSlicev (zero : List AV) (cap : Opd)
  | slc (esz : Nat) (x : Opd) (lo hi mx : Option Opd)
  | slcs (x : Opd) (lo hi : Option Opd)
  | fa (off : Nat) (x : Opd)
  | fld (agg : Bool) (off s : Nat) (x : Opd)
  | ixa (esz : Nat) (x i : Opd)
  | ixarr (len esz : Nat) (x i : Opd)
  | ix (x i : Opd)
  | ixagg (agg : Bool) (len esz : Nat) (x i : Opd)
  | lookup (kk : Nat) (ok : Bool) (zero : AV) (x k : Opd)
  | mapset (kk : Nat) (m k v : Opd)
  | tassert (ok : Bool) (t : Nat) (zero : AV) (x : Opd)
  | extr (x : Opd) (i : Nat)
  | call (f : Nat) (args : List Opd)
  | callv (f : Opd) (args : List Opd)
  | lens (x : Opd)
  | lenv (x : Opd)
  | lenm (x : Opd)
  | imin (x y : Opd)
  | append (esz : Nat) (x y : Opd)
  | appendm (esz : Nat) (x y : Opd)
  | copy (x y : Opd)
  | unreach

structure AOper where
  dst : Option Nat
  op : AOp
  guard : Option (Nat × Bool)

/-- an operation of a region in whatever order: one that tells a value, with the states that it may meet; one that acts, with the variables that are made for it -/
inductive DOp where
  | val (ix : Nat) (win : Option (Nat × Nat)) (o : AOper)
  | eff (als : List (Nat × Nat × List AV)) (ix : Nat) (o : AOper)

inductive AC where
  | regd (ops : List DOp) (als : List (Nat × Nat × List AV)) (keep : List Nat)
  | skip
  | ret
  | exit (id : Nat)
  | reg (ops : List AOper) (keep : List Nat)
  | seq (a b : AC)
  | cond (c : Opd) (t e : AC)
  | block (id : Nat) (b : AC)
  | loop (b : AC) (keep : List Nat)

inductive Ex where
  | norm | exit (id : Nat) | ret
  deriving DecidableEq

inductive RV where
  | t (i : Nat)
  | c (i : Nat) (agg : Bool) (s : Nat)

structure AFn where
  nt : Nat
  code : AC
  results : List RV
  frz : Bool

/-- Go's operations on numbers -/
def intOp (op : BinOp) (k : IntKind) (x y : Int) : Option AV :=
  match op with
  | .add => some (.int k (k.wrap (x + y)))
  | .sub => some (.int k (k.wrap (x - y)))
  | .mul => some (.int k (k.wrap (x * y)))
  | .quo => if y = 0 then none else some (.int k (k.wrap (x.tdiv y)))
  | .rem => if y = 0 then none else some (.int k (x.tmod y))
  | .and => some (.int k (k.wrap (BitVec.ofInt k.bits x &&& BitVec.ofInt k.bits y).toNat))
  | .or => some (.int k (k.wrap (BitVec.ofInt k.bits x ||| BitVec.ofInt k.bits y).toNat))
  | .xor => some (.int k (k.wrap (BitVec.ofInt k.bits x ^^^ BitVec.ofInt k.bits y).toNat))
  | .andNot => some (.int k (k.wrap (BitVec.ofInt k.bits x &&& ~~~(BitVec.ofInt k.bits y)).toNat))
  | .eql => some (.bool (decide (x = y)))
  | .neq => some (.bool (!decide (x = y)))
  | .lss => some (.bool (decide (x < y)))
  | .leq => some (.bool (decide (x ≤ y)))
  | .gtr => some (.bool (decide (x > y)))
  | .geq => some (.bool (decide (x ≥ y)))
  | _ => none

def shiftOp (op : BinOp) (k : IntKind) (x y : Int) : Option AV :=
  if y < 0 then none
  else match op with
    | .shl => some (.int k (k.wrap (x * 2 ^ (min y.toNat k.bits))))
    | .shr => some (.int k (x.fdiv (2 ^ (min y.toNat k.bits))))
    | _ => none

def strLess : List Nat → List Nat → Bool
  | _, [] => false
  | [], _ :: _ => true
  | a :: x, b :: y => decide (a < b) || (decide (a = b) && strLess x y)

def maxStr : Nat := 1099511627776

def strOp (op : BinOp) (x y : List Nat) : Option AV :=
  match op with
  | .add => if x.length + y.length ≤ maxStr then some (.str (x ++ y)) else none
  | .eql => some (.bool (decide (x = y)))
  | .neq => some (.bool (!decide (x = y)))
  | .lss => some (.bool (strLess x y))
  | .leq => some (.bool (strLess x y || decide (x = y)))
  | .gtr => some (.bool (!(strLess x y || decide (x = y))))
  | .geq => some (.bool (!strLess x y))
  | _ => none

/-- is it nil? -/
def isNil : EqK → AV → Option Bool
  | .ptr, .nilp => some true
  | .ptr, .ref _ | .ptr, .ptr _ _ _ => some false
  | .iface, .nili => some true
  | .iface, .iface _ _ => some false
  | .func, .nilf => some true
  | .func, .fn _ _ _ => some false
  | .map, .nilm => some true
  | .map, .map _ => some false
  | _, _ => none

def eqRes (op : BinOp) (b : Bool) : Option AV :=
  match op with
  | .eql => some (.bool b)
  | .neq => some (.bool (!b))
  | _ => none

def binOpA (kd : EqK) (op : BinOp) (x y : AV) : Option AV :=
  match kd with
  | .plain =>
    match x, y with
    | .int k a, .int k' b => if op = .shl ∨ op = .shr then shiftOp op k a b else if k = k' then intOp op k a b else none
    | .str a, .str b => strOp op a b
    | _, _ => none
  | .bool =>
    match x, y with
    | .bool a, .bool b => eqRes op (a == b)
    | _, _ => none
  | kd =>
    match isNil kd x, isNil kd y with
    | some true, some b => eqRes op b
    | some false, some true => eqRes op false
    | _, _ => none

def unOpA (op : UnOp) (x : AV) : Option AV :=
  match op, x with
  | .neg, .int k n => intOp .sub k 0 n
  | .xor, .int k n => intOp .xor k (if k.signed then -1 else k.max) n
  | .not, .bool b => some (.bool (!b))
  | _, _ => none

def asInt : AV → Option Int
  | .int _ n => some n
  | _ => none

/-- a place in a slice of n, as Go's slicing wants it -/
def boundA (n : Nat) : Option AV → Nat → Option Nat
  | none, d => some d
  | some (.int _ i), _ => if 0 ≤ i ∧ i ≤ n then some i.toNat else none
  | _, _ => none

def sliceTok (t : Tok) (l h n : Nat) : Tok :=
  match t with
  | .exact => if h = n then .exact else .shared
  | .shared => .shared
  | .grow g s => if l < n then .grow g (s + l) else .shared

def sliceA (esz : Nat) (h : AH) (x : AV) (lo hi mx : Option AV) : Option AV :=
  match x with
  | .vs e t =>
    if e.all (fun c => c.length == esz) then
      (boundA e.length mx e.length).bind fun m => (boundA m hi e.length).bind fun h => (boundA h lo 0).bind fun l =>
        some (.vs ((e.drop l).take (h - l)) (match mx with | some _ => if h = m then .exact else .shared | none => sliceTok t l h e.length))
    else none
  | .ms id s n =>
    match mx, h.get id with
    | none, some (.rows z _) => if z = esz then (boundA n hi n).bind fun h => (boundA h lo 0).bind fun l => some (.ms id (s + l) (h - l)) else none
    | _, _ => none
  | _ => none

def sliceS (x : AV) (lo hi : Option AV) : Option AV :=
  match x with
  | .str s => (boundA s.length hi s.length).bind fun h => (boundA h lo 0).bind fun l => some (.str ((s.drop l).take (h - l)))
  | _ => none

/-- keys of maps: are they the same? none: they are none -/
def keyEq : AV → AV → Option Bool
  | .int k a, .int l b => if k = l then some (decide (a = b)) else none
  | .str a, .str b => some (decide (a = b))
  | .agg [.int k a, .int l b], .agg [.int k' a', .int l' b'] => if k = k' ∧ l = l' then some (decide (a = a') && decide (b = b')) else none
  | _, _ => none

def findKeyA (k : AV) : List (AV × AV) → Option (Option AV)
  | [] => some none
  | (k', v) :: r =>
    match keyEq k k' with
    | some true => some (some v)
    | some false => findKeyA k r
    | none => none

def setKeyA (k v : AV) : List (AV × AV) → Option (List (AV × AV))
  | [] => some [(k, v)]
  | (k', v') :: r =>
    match keyEq k k' with
    | some true => some ((k', v) :: r)
    | some false => (setKeyA k v r).map ((k', v') :: ·)
    | none => none

/-- is it a key at all? -/
def keyIs : Nat → AV → Bool
  | 0, .int _ _ => true
  | 1, .str _ => true
  | 2, .agg [.int _ _, .int _ _] => true
  | _, _ => false

def maxLenA : Nat := 16777216

/-- the elements of a slice, or a text's bytes -/
def elemsOf (h : AH) : AV → Option (List (List AV))
  | .vs e _ => some e
  | .str s => some (s.map fun (b : Nat) => [AV.int .u8 (b : Int)])
  | .ms id s n =>
    match h.get id with
    | some (.rows _ rs) => if s + n ≤ rs.length then some ((rs.drop s).take n) else none
    | _ => none
  | _ => none

/-- elements that are put into memory by value -/
def byVal (e : List (List AV)) : Option (List (List AV)) :=
  if e.all pureL then some e else none

def stripL (cs : List AV) : List AV := cs.map AV.strip

def appendA (esz : Nat) (h : AH) (x y : AV) : Option (AV × AH) :=
  match x with
  | .vs e t =>
    (elemsOf h y).bind fun n =>
      let n := n.map stripL
      if n.isEmpty then some (x, h)
      else if e.length + n.length ≤ maxLenA ∧ n.all (fun r => pureL r && (r.length == esz)) = true ∧ e.all (fun r => r.length == esz) = true then
        match t with
        | .exact => some (.vs (e ++ n) (.grow h.next 0), h.push (.grow esz (e.length + n.length)))
        | .shared => none
        | .grow g s =>
          match h.get g with
          | some (.grow z f) => if z = esz ∧ f = s + e.length then some (.vs (e ++ n) (.grow h.next 0), (h.drop g).push (.grow esz (e.length + n.length))) else none
          | _ => none
      else none
  | _ => none

def appendmA (esz : Nat) (h : AH) (x y : AV) : Option (AV × AH) :=
  match x with
  | .vs e .exact =>
    (elemsOf h y).bind fun n =>
      if n.isEmpty then some (x, h)
      else if e.length + n.length ≤ maxLenA ∧ n.all (fun r => r.length == esz) = true ∧ e.all (fun r => r.length == esz) = true then
        some (.ms h.next 0 (e.length + n.length), h.push (.rows esz (e ++ n)))
      else none
  | .ms id s l =>
    (elemsOf h y).bind fun n =>
      if n.isEmpty then some (x, h)
      else
        match h.get id with
        | some (.rows z rs) =>
          if z = esz ∧ s + l ≤ rs.length ∧ l + n.length ≤ maxLenA ∧ n.all (fun r => r.length == esz) = true then
            some (.ms h.next 0 (l + n.length), (h.drop id).push (.rows esz ((rs.drop s).take l ++ n)))
          else none
        | _ => none
  | _ => none

def evL (fr : Fr) (l : List Opd) : List AV := l.map (Opd.ev fr)

def opRun (call : Nat → List AV → AH → Option (AV × AH)) (o : AOp) (fr : Fr) (h : AH) : Option (AV × AH) :=
  match o with
  | .mv x => some (x.ev fr, h)
  | .pick c a b =>
    match c.ev fr with
    | .bool t => some (if t then a.ev fr else b.ev fr, h)
    | _ => none
  | .alloc zero => some (.ptr h.next 0 0, h.push (.rows zero.length [zero]))
  | .boxv x => (cellsOf (x.ev fr)).bind fun cs => some (.ref (stripL cs), h)
  | .boxm x => (cellsOf (x.ev fr)).bind fun cs => some (.ptr h.next 0 0, h.push (.rows cs.length [cs]))
  | .build zero parts =>
    (parts.mapM fun (p : Nat × Nat × Opd) => (cellsOf (p.2.2.ev fr)).bind fun cs => if cs.length = p.2.1 then some (p.1, cs) else none).bind fun ps =>
      (splices zero ps).bind fun cs => some (.agg cs, h)
  | .bslice zero len parts =>
    (parts.mapM fun (p : Nat × Opd) => (cellsOf (p.2.ev fr)).bind fun cs => if cs.length = zero.length then some (p.1, stripL cs) else none).bind fun ps =>
      let e := ps.foldl (fun e p => e.set p.1 p.2) (List.replicate len zero)
      if e.all pureL then some (.vs e .exact, h) else none
  | .bslicem zero len parts =>
    (parts.mapM fun (p : Nat × Opd) => (cellsOf (p.2.ev fr)).bind fun cs => if cs.length = zero.length then some (p.1, cs) else none).bind fun ps =>
      some (.ms h.next 0 len, h.push (.rows zero.length (ps.foldl (fun e p => e.set p.1 p.2) (List.replicate len zero))))
  | .load agg s x =>
    match x.ev fr with
    | .ref cs => (readAt agg s cs).map fun v => (v, h)
    | .ptr id row off =>
      match h.get id with
      | some (.rows _ rs) => (rs[row]?).bind fun cs => (readAt agg s (cs.drop off)).map fun v => (v, h)
      | _ => none
    | _ => none
  | .store s a x =>
    match a.ev fr with
    | .ptr id row off =>
      match h.get id with
      | some (.rows z rs) =>
        (rs[row]?).bind fun cs => (cellsOf (x.ev fr)).bind fun new =>
          if new.length = s then (splice cs off new).bind fun cs => some (.any, (h.set id (.rows z (rs.set row cs))).note id (refsL new)) else none
      | _ => none
    | _ => none
  | .nilck x =>
    match x.ev fr with
    | .ref cs => some (.ref cs, h)
    | .ptr i r o => some (.ptr i r o, h)
    | .iface t v => some (.iface t v, h)
    | .fn f a b => some (.fn f a b, h)
    | _ => none
  | .bin kd op x y => (binOpA kd op (x.ev fr) (y.ev fr)).map fun v => (v, h)
  | .un op x => (unOpA op (x.ev fr)).map fun v => (v, h)
  | .conv k x =>
    match x.ev fr with
    | .int _ n => some (.int k (k.wrap n), h)
    | _ => none
  | .mkI t x =>
    match x.ev fr with
    | .any => none
    | v => some (.iface t v, h)
  | .mkF f first captured => some (.fn f (evL fr first) (evL fr captured), h)
  | .mkMap => some (.map h.next, h.push (.map []))
  | .mkSlice zero len cap =>
    match len.ev fr, cap.ev fr with
    | .int _ n, .int _ c => if 0 ≤ n ∧ n ≤ c ∧ c ≤ maxLenA then some (.ms h.next 0 n.toNat, h.push (.rows zero.length (List.replicate n.toNat zero))) else none
    | _, _ => none
  | .mkSlicev zero cap =>
    match cap.ev fr with
    | .int _ c => if 0 ≤ c ∧ c ≤ maxLenA then some (.vs [] (.grow h.next 0), h.push (.grow zero.length 0)) else none
    | _ => none
  | .slc esz x lo hi mx => (sliceA esz h (x.ev fr) (lo.map (Opd.ev fr)) (hi.map (Opd.ev fr)) (mx.map (Opd.ev fr))).map fun v => (v, h)
  | .slcs x lo hi => (sliceS (x.ev fr) (lo.map (Opd.ev fr)) (hi.map (Opd.ev fr))).map fun v => (v, h)
  | .fa off x =>
    match x.ev fr with
    | .ref cs => some (.ref (cs.drop off), h)
    | .ptr id row o => some (.ptr id row (o + off), h)
    | _ => none
  | .fld agg off s x =>
    match x.ev fr with
    | .agg cs => (readAt agg s (cs.drop off)).map fun v => (v, h)
    | _ => none
  | .ixa esz x i =>
    match i.ev fr with
    | .int _ n =>
      match x.ev fr with
      | .vs e _ => if 0 ≤ n then (e[n.toNat]?).bind fun cs => if cs.length = esz then some (.ref cs, h) else none else none
      | .ms id s l =>
        match h.get id with
        | some (.rows z _) => if z = esz ∧ 0 ≤ n ∧ n < l then some (.ptr id (s + n.toNat) 0, h) else none
        | _ => none
      | _ => none
    | _ => none
  | .ixarr len esz x i =>
    match i.ev fr with
    | .int _ n =>
      if 0 ≤ n ∧ n < len then
        match x.ev fr with
        | .ref cs => some (.ref (cs.drop (n.toNat * esz)), h)
        | .ptr id row o => some (.ptr id row (o + n.toNat * esz), h)
        | _ => none
      else none
    | _ => none
  | .ix x i =>
    match x.ev fr, i.ev fr with
    | .str s, .int _ n => if 0 ≤ n then (s[n.toNat]?).map fun (b : Nat) => (.int .u8 (b : Int), h) else none
    | _, _ => none
  | .ixagg agg len esz x i =>
    match x.ev fr, i.ev fr with
    | .agg cs, .int _ n => if 0 ≤ n ∧ n < len then (readAt agg esz (cs.drop (n.toNat * esz))).map fun v => (v, h) else none
    | _, _ => none
  | .lookup kk ok zero x k =>
    if keyIs kk (k.ev fr) then
      match x.ev fr with
      | .nilm => some (if ok then .tup [zero, .bool false] else zero, h)
      | .map id =>
        match h.get id with
        | some (.map es) =>
          (findKeyA (k.ev fr) es).map fun
            | some v => (if ok then .tup [v, .bool true] else v, h)
            | none => (if ok then .tup [zero, .bool false] else zero, h)
        | _ => none
      | _ => none
    else none
  | .mapset kk m k v =>
    if keyIs kk (k.ev fr) then
      match m.ev fr, v.ev fr with
      | _, .any => none
      | .map id, v =>
        match h.get id with
        | some (.map es) => (setKeyA (k.ev fr) v es).map fun es => (.any, (h.set id (.map es)).note id v.refs)
        | _ => none
      | _, _ => none
    else none
  | .tassert ok t zero x =>
    match x.ev fr with
    | .iface u v => if u = t then some (if ok then .tup [v, .bool true] else v, h) else if ok then some (.tup [zero, .bool false], h) else none
    | .nili => if ok then some (.tup [zero, .bool false], h) else none
    | _ => none
  | .extr x i =>
    match x.ev fr with
    | .tup l => (l[i]?).map fun v => (v, h)
    | _ => none
  | .call f args => call f (evL fr args) h
  | .callv f args =>
    match f.ev fr with
    | .fn g first captured => call g (first ++ evL fr args ++ captured) h
    | _ => none
  | .lens x =>
    match x.ev fr with
    | .str s => some (.int .i64 s.length, h)
    | _ => none
  | .lenv x =>
    match x.ev fr with
    | .vs e _ => some (.int .i64 e.length, h)
    | .ms _ _ n => some (.int .i64 n, h)
    | _ => none
  | .lenm x =>
    match x.ev fr with
    | .nilm => some (.int .i64 0, h)
    | .map id =>
      match h.get id with
      | some (.map es) => some (.int .i64 es.length, h)
      | _ => none
    | _ => none
  | .imin x y =>
    match x.ev fr, y.ev fr with
    | .int k a, .int _ b => some (.int k (if b < a then b else a), h)
    | _, _ => none
  | .append esz x y => appendA esz h (x.ev fr) (y.ev fr)
  | .appendm esz x y => appendmA esz h (x.ev fr) (y.ev fr)
  | .copy x y =>
    match x.ev fr with
    | .ms id s l =>
      (elemsOf h (y.ev fr)).bind fun n =>
        match h.get id with
        | some (.rows z rs) =>
          let m := min n.length l
          if s + l ≤ rs.length ∧ (n.take m).all (fun r => r.length == z) = true then
            some (.int .i64 m, (h.set id (.rows z (rs.take s ++ n.take m ++ rs.drop (s + m)))).note id ((n.take m).flatMap refsL))
          else none
        | _ => none
    | _ => none
  | .unreach => none

def opWanted (fr : Fr) : Option (Nat × Bool) → Option Bool
  | none => some true
  | some (t, b) =>
    match fget fr t with
    | .bool c => some (c == b)
    | .tup _ => some false
    | _ => none

def putFr (fr : Fr) : Option Nat → AV → Fr
  | none, _ => fr
  | some d, v => (d, v) :: fr

def regRun (call : Nat → List AV → AH → Option (AV × AH)) : List AOper → Fr → AH → Option (Fr × AH)
  | [], fr, h => some (fr, h)
  | o :: r, fr, h =>
    match opWanted fr o.guard with
    | some true => (opRun call o.op fr h).bind fun x => regRun call r (putFr fr o.dst x.1) x.2
    | some false => regRun call r (putFr fr o.dst (.tup [])) h
    | none => none

mutual
def AV.same : AV → AV → Bool
  | .any, .any | .nilp, .nilp | .nilm, .nilm | .nilf, .nilf | .nili, .nili => true
  | .bool a, .bool b => a == b
  | .int k a, .int l b => decide (k = l) && decide (a = b)
  | .str a, .str b => decide (a = b)
  | .ref a, .ref b => sameL a b
  | .ptr a b c, .ptr d e f => (a == d) && (b == e) && (c == f)
  | .vs a s, .vs b t => sameLL a b && decide (s = t)
  | .ms a b c, .ms d e f => (a == d) && (b == e) && (c == f)
  | .map a, .map b => a == b
  | .fn f a b, .fn g c d => (f == g) && sameL a c && sameL b d
  | .iface t a, .iface u b => (t == u) && a.same b
  | .agg a, .agg b => sameL a b
  | .tup a, .tup b => sameL a b
  | _, _ => false
def sameL : List AV → List AV → Bool
  | [], [] => true
  | a :: x, b :: y => a.same b && sameL x y
  | _, _ => false
def sameLL : List (List AV) → List (List AV) → Bool
  | [], [] => true
  | a :: x, b :: y => sameL a b && sameLL x y
  | _, _ => false
end

mutual
theorem AV.same_eq : ∀ {a b : AV}, a.same b = true → a = b := by
  intro a b h
  cases a <;> cases b <;> simp only [AV.same, Bool.and_eq_true, beq_iff_eq, decide_eq_true_eq, Bool.false_eq_true] at h <;> try (first | rfl | (cases h; rfl) | (subst h; rfl))
  case int.int => obtain ⟨rfl, rfl⟩ := h; rfl
  case ref.ref => rw [sameL_eq h]
  case ptr.ptr => obtain ⟨⟨rfl, rfl⟩, rfl⟩ := h; rfl
  case vs.vs => obtain ⟨h1, rfl⟩ := h; rw [sameLL_eq h1]
  case ms.ms => obtain ⟨⟨rfl, rfl⟩, rfl⟩ := h; rfl
  case fn.fn => obtain ⟨⟨rfl, h1⟩, h2⟩ := h; rw [sameL_eq h1, sameL_eq h2]
  case iface.iface => obtain ⟨rfl, h1⟩ := h; rw [AV.same_eq h1]
  case agg.agg => rw [sameL_eq h]
  case tup.tup => rw [sameL_eq h]
theorem sameL_eq : ∀ {a b : List AV}, sameL a b = true → a = b
  | [], [], _ => rfl
  | a :: x, b :: y, h => by
    simp only [sameL, Bool.and_eq_true] at h
    rw [AV.same_eq h.1, sameL_eq h.2]
  | [], _ :: _, h => by simp [sameL] at h
  | _ :: _, [], h => by simp [sameL] at h
theorem sameLL_eq : ∀ {a b : List (List AV)}, sameLL a b = true → a = b
  | [], [], _ => rfl
  | a :: x, b :: y, h => by
    simp only [sameLL, Bool.and_eq_true] at h
    rw [sameL_eq h.1, sameLL_eq h.2]
  | [], _ :: _, h => by simp [sameLL] at h
  | _ :: _, [], h => by simp [sameLL] at h
end

def alsRun : List (Nat × Nat × List AV) → Fr → AH → Fr × AH
  | [], fr, h => (fr, h)
  | (_, d, z) :: r, fr, h => alsRun r ((d, .ptr h.next 0 0) :: fr) (h.push (.rows z.length [z]))

/-- a value that must be told alike in some states: the frame, the operation, what it tells, the first state, how many -/
structure Ck where
  fr : Fr
  o : AOp
  v : AV
  lo : Nat
  n : Nat

def ckOf (fr : Fr) (o : AOp) (v : AV) : Option (Nat × Nat) → List Ck
  | none => []
  | some p => [⟨fr, o, v, p.1, p.2⟩]

/-- the run in the text's order; the states behind each operation that acts; what is to be told alike -/
def dRun (call : Nat → List AV → AH → Option (AV × AH)) : List DOp → Fr → AH → List AH → List Ck → Option (Fr × AH × List AH × List Ck)
  | [], fr, h, sn, ck => some (fr, h, sn, ck)
  | .val _ w o :: r, fr, h, sn, ck =>
    match opWanted fr o.guard with
    | some true => (opRun call o.op fr h).bind fun x => dRun call r (putFr fr o.dst x.1) h sn (ckOf fr o.op x.1 w ++ ck)
    | some false => dRun call r (putFr fr o.dst (.tup [])) h sn ck
    | none => none
  | .eff als _ o :: r, fr, h, sn, ck =>
    match opWanted (alsRun als fr h).1 o.guard with
    | some true => (opRun call o.op (alsRun als fr h).1 (alsRun als fr h).2).bind fun x => dRun call r (putFr (alsRun als fr h).1 o.dst x.1) x.2 (sn ++ [x.2]) ck
    | some false => dRun call r (putFr (alsRun als fr h).1 o.dst (.tup [])) (alsRun als fr h).2 (sn ++ [(alsRun als fr h).2]) ck
    | none => none

/-- does the operation tell the same in a state? -/
def winAt (call : Nat → List AV → AH → Option (AV × AH)) (c : Ck) (H : AH) : Bool :=
  match opRun call c.o c.fr H with
  | some x => x.1.same c.v
  | none => false

def winOK (call : Nat → List AV → AH → Option (AV × AH)) (sn : List AH) : List Ck → Bool
  | [] => true
  | c :: r => (((sn.drop c.lo).take c.n).all fun H => winAt call c H) && winOK call sn r

def regdRun (call : Nat → List AV → AH → Option (AV × AH)) (ops : List DOp) (als : List (Nat × Nat × List AV)) (fr : Fr) (h : AH) : Option (Fr × AH) :=
  (dRun call ops fr h [h] []).bind fun x => if winOK call x.2.2.1 x.2.2.2 then some (alsRun als x.1 x.2.1) else none

def loopN (f : Fr → AH → Option (Ex × Fr × AH)) (keep : List Nat) : Nat → Fr → AH → Option (Ex × Fr × AH)
  | 0, _, _ => none
  | n + 1, fr, h => (f (keepFr keep fr) h).bind fun x => if x.1 = .norm then loopN f keep n x.2.1 x.2.2 else some x

def codeRun (call : Nat → List AV → AH → Option (AV × AH)) (n : Nat) : AC → Fr → AH → Option (Ex × Fr × AH)
  | .skip, fr, h => some (.norm, fr, h)
  | .ret, fr, h => some (.ret, fr, h)
  | .exit id, fr, h => some (.exit id, fr, h)
  | .regd ops als keep, fr, h => (regdRun call ops als fr h).bind fun x => some (.norm, keepFr keep x.1, x.2)
  | .reg ops keep, fr, h => (regRun call ops fr h).bind fun x => some (.norm, keepFr keep x.1, x.2)
  | .seq a b, fr, h => (codeRun call n a fr h).bind fun x => if x.1 = .norm then codeRun call n b x.2.1 x.2.2 else some x
  | .cond c t e, fr, h =>
    match c.ev fr with
    | .bool b => if b then codeRun call n t fr h else codeRun call n e fr h
    | _ => none
  | .block id b, fr, h => (codeRun call n b fr h).bind fun x => if x.1 = .exit id then some (.norm, x.2) else some x
  | .loop b keep, fr, h => loopN (codeRun call n b) keep n fr h

def results (fr : Fr) (h : AH) : List RV → Option (List AV)
  | [] => some []
  | .t i :: r => (results fr h r).map (fget fr i :: ·)
  | .c i agg s :: r =>
    match fget fr i with
    | .ptr id row off =>
      match h.get id with
      | some (.rows _ rs) => (rs[row]?).bind fun cs => (readAt agg s (cs.drop off)).bind fun v => (results fr h r).map (v :: ·)
      | _ => none
    | _ => none

/-- one cell of what is told: a slice that lies in a block of the call's own is told by value, and the block let go -/
def frzCell (n : Nat) (v : AV) (h : AH) : Option (AV × AH) :=
  match v with
  | .ms id s l =>
    if id < n then some (v, h) else
    match h.get id with
    | some (.rows _ rs) =>
      if s + l ≤ rs.length then
        let e := ((rs.drop s).take l).map stripL
        if e.all pureL then some (.vs e .shared, h.drop id) else none
      else none
    | _ => none
  | .vs e _ => some (.vs e .shared, h)
  | v => some (v, h)

def frzCells (n : Nat) : List AV → AH → Option (List AV × AH)
  | [], h => some ([], h)
  | v :: r, h => (frzCell n v h).bind fun x => (frzCells n r x.2).map fun y => (x.1 :: y.1, y.2)

def frzVal (n : Nat) (v : AV) (h : AH) : Option (AV × AH) :=
  match v with
  | .agg cs => (frzCells n cs h).map fun x => (.agg x.1, x.2)
  | v => frzCell n v h

def frzVals (n : Nat) : List AV → AH → Option (List AV × AH)
  | [], h => some ([], h)
  | v :: r, h => (frzVal n v h).bind fun x => (frzVals n r x.2).map fun y => (x.1 :: y.1, y.2)

/-- what a call leaves: its own blocks are let go where nothing leads there -/
def leave (n : Nat) (vs : List AV) (h : AH) : AH :=
  if (refsL vs).all (fun r => decide (r < n)) && h.closed n then h.cut n else h

def asResult : List AV → AV
  | [v] => v
  | l => .tup l

def finish (fn : AFn) (n : Nat) (fr : Fr) (h : AH) : Option (AV × AH) :=
  (results fr h fn.results).bind fun vs =>
    if fn.frz then (frzVals n vs h).bind fun x => some (asResult x.1, leave n x.1 x.2) else some (asResult vs, leave n vs h)

def argFr : Nat → List AV → Fr
  | _, [] => []
  | i, v :: r => (i, v) :: argFr (i + 1) r

structure Env where
  fns : Nat → Option AFn
  ext : Nat → Option (List AV → AH → Option (AV × AH))

def bodyRun (call : Nat → List AV → AH → Option (AV × AH)) (k : Nat) (fn : AFn) (args : List AV) (h : AH) : Option (AV × AH) :=
  if args.length ≤ fn.nt then
    (codeRun call k fn.code (argFr 0 args) h).bind fun x =>
      match x.1 with
      | .exit _ => none
      | _ => finish fn h.next x.2.1 x.2.2
  else none

def callRun (E : Env) : Nat → Nat → List AV → AH → Option (AV × AH)
  | 0, _, _, _ => none
  | k + 1, f, args, h =>
    match E.ext f with
    | some g => g args h
    | none =>
      match E.fns f with
      | some fn => bodyRun (callRun E k) k fn args h
      | none => none

end Go.Proofs.YtfahpmlckobpmaaGreatDoor.Pi
/-
  The abstract run without a bound on its rounds and calls: what it comes to with any bound; and its equations.
-/
namespace Go.Proofs.YtfahpmlckobpmaaGreatDoor.Pi
open Go

abbrev CallF := Nat → List AV → AH → Option (AV × AH)

def CallF.le (c d : CallF) : Prop := ∀ f a h r, c f a h = some r → d f a h = some r

theorem bind_some_iff {α β : Type} {x : Option α} {f : α → Option β} {b : β} : x.bind f = some b ↔ ∃ a, x = some a ∧ f a = some b := by
  cases x <;> simp

theorem opRun_mono {c d : CallF} (hc : c.le d) {o : AOp} {fr : Fr} {h : AH} {r : AV × AH} (hr : opRun c o fr h = some r) : opRun d o fr h = some r := by
  cases o
  case call f args => exact hc _ _ _ _ hr
  case callv f args =>
    simp only [opRun] at hr ⊢
    cases hf : f.ev fr with
    | fn g a b => simp only [hf] at hr; exact hc _ _ _ _ hr
    | _ => simp [hf] at hr
  all_goals exact hr

theorem regRun_mono {c d : CallF} (hc : c.le d) : ∀ {ops : List AOper} {fr : Fr} {h : AH} {r : Fr × AH}, regRun c ops fr h = some r → regRun d ops fr h = some r
  | [], _, _, _, hr => hr
  | o :: ops, fr, h, r, hr => by
    simp only [regRun] at hr ⊢
    split
    · rename_i hw
      simp only [hw] at hr
      obtain ⟨x, h1, h2⟩ := bind_some_iff.1 hr
      exact bind_some_iff.2 ⟨x, opRun_mono hc h1, regRun_mono hc h2⟩
    · rename_i hw
      simp only [hw] at hr
      exact regRun_mono hc hr
    · rename_i hw
      simp [hw] at hr

theorem dRun_mono {c d : CallF} (hc : c.le d) : ∀ {ops : List DOp} {fr : Fr} {h : AH} {sn : List AH} {ck : List Ck} {r : Fr × AH × List AH × List Ck}, dRun c ops fr h sn ck = some r → dRun d ops fr h sn ck = some r
  | [], _, _, _, _, _, hr => hr
  | .val ix w o :: ops, fr, h, sn, ck, r, hr => by
    simp only [dRun] at hr ⊢
    split
    · rename_i hw
      simp only [hw] at hr
      obtain ⟨x, h1, h2⟩ := bind_some_iff.1 hr
      exact bind_some_iff.2 ⟨x, opRun_mono hc h1, dRun_mono hc h2⟩
    · rename_i hw
      simp only [hw] at hr
      exact dRun_mono hc hr
    · rename_i hw
      simp [hw] at hr
  | .eff als ix o :: ops, fr, h, sn, ck, r, hr => by
    simp only [dRun] at hr ⊢
    split
    · rename_i hw
      simp only [hw] at hr
      obtain ⟨x, h1, h2⟩ := bind_some_iff.1 hr
      exact bind_some_iff.2 ⟨x, opRun_mono hc h1, dRun_mono hc h2⟩
    · rename_i hw
      simp only [hw] at hr
      exact dRun_mono hc hr
    · rename_i hw
      simp [hw] at hr

theorem winAt_mono {c d : CallF} (hc : c.le d) {k : Ck} {H : AH} (hr : winAt c k H = true) : winAt d k H = true := by
  unfold winAt at hr ⊢
  cases h1 : opRun c k.o k.fr H with
  | none => simp [h1] at hr
  | some x => rw [opRun_mono hc h1]; simpa [h1] using hr

theorem winOK_mono {c d : CallF} (hc : c.le d) {sn : List AH} : ∀ {ck : List Ck}, winOK c sn ck = true → winOK d sn ck = true
  | [], hr => hr
  | k :: ck, hr => by
    simp only [winOK, Bool.and_eq_true, List.all_eq_true] at hr ⊢
    exact ⟨fun H hH => winAt_mono hc (hr.1 H hH), winOK_mono hc hr.2⟩

theorem regdRun_mono {c d : CallF} (hc : c.le d) {ops : List DOp} {als : List (Nat × Nat × List AV)} {fr : Fr} {h : AH} {r : Fr × AH} (hr : regdRun c ops als fr h = some r) : regdRun d ops als fr h = some r := by
  simp only [regdRun] at hr ⊢
  obtain ⟨x, h1, h2⟩ := bind_some_iff.1 hr
  refine bind_some_iff.2 ⟨x, dRun_mono hc h1, ?_⟩
  split at h2
  · rename_i hw; rw [if_pos (winOK_mono hc hw)]; exact h2
  · cases h2

abbrev CodeF := Fr → AH → Option (Ex × Fr × AH)
def CodeF.le (c d : CodeF) : Prop := ∀ fr h r, c fr h = some r → d fr h = some r

theorem loopN_mono {f g : CodeF} (hf : f.le g) (keep : List Nat) : ∀ {n m : Nat} (_ : n ≤ m) {fr : Fr} {h : AH} {r : Ex × Fr × AH}, loopN f keep n fr h = some r → loopN g keep m fr h = some r
  | 0, _, _, _, _, _, hr => by simp [loopN] at hr
  | n + 1, 0, hn, _, _, _, _ => absurd hn (by omega)
  | n + 1, m + 1, hn, fr, h, r, hr => by
    simp only [loopN] at hr ⊢
    obtain ⟨x, h1, h2⟩ := bind_some_iff.1 hr
    refine bind_some_iff.2 ⟨x, hf _ _ _ h1, ?_⟩
    split
    · rename_i hx
      simp only [hx, if_true] at h2
      exact loopN_mono hf keep (by omega) h2
    · rename_i hx
      simpa [hx] using h2

theorem codeRun_mono {c d : CallF} (hc : c.le d) {n m : Nat} (hn : n ≤ m) : ∀ (x : AC) {fr : Fr} {h : AH} {r : Ex × Fr × AH}, codeRun c n x fr h = some r → codeRun d m x fr h = some r
  | .skip, _, _, _, hr => hr
  | .ret, _, _, _, hr => hr
  | .exit _, _, _, _, hr => hr
  | .regd ops als keep, fr, h, r, hr => by
    simp only [codeRun] at hr ⊢
    obtain ⟨x, h1, h2⟩ := bind_some_iff.1 hr
    exact bind_some_iff.2 ⟨x, regdRun_mono hc h1, h2⟩
  | .reg ops keep, fr, h, r, hr => by
    simp only [codeRun] at hr ⊢
    obtain ⟨x, h1, h2⟩ := bind_some_iff.1 hr
    exact bind_some_iff.2 ⟨x, regRun_mono hc h1, h2⟩
  | .seq a b, fr, h, r, hr => by
    simp only [codeRun] at hr ⊢
    obtain ⟨x, h1, h2⟩ := bind_some_iff.1 hr
    refine bind_some_iff.2 ⟨x, codeRun_mono hc hn a h1, ?_⟩
    split
    · rename_i hx
      simp only [hx, if_true] at h2
      exact codeRun_mono hc hn b h2
    · rename_i hx
      simpa [hx] using h2
  | .cond cc t e, fr, h, r, hr => by
    simp only [codeRun] at hr ⊢
    split
    · rename_i b hb
      simp only [hb] at hr
      cases b
      · simp only [Bool.false_eq_true, if_false] at hr ⊢; exact codeRun_mono hc hn e hr
      · simp only [if_true] at hr ⊢; exact codeRun_mono hc hn t hr
    · rename_i hb
      split at hr
      · rename_i b hb'; exact absurd hb' (hb b)
      · exact hr
  | .block id b, fr, h, r, hr => by
    simp only [codeRun] at hr ⊢
    obtain ⟨x, h1, h2⟩ := bind_some_iff.1 hr
    exact bind_some_iff.2 ⟨x, codeRun_mono hc hn b h1, h2⟩
  | .loop b keep, fr, h, r, hr => by
    simp only [codeRun] at hr ⊢
    exact loopN_mono (fun _ _ _ h => codeRun_mono hc hn b h) keep hn hr

theorem callRun_mono1 (E : Env) : ∀ (k : Nat), CallF.le (callRun E k) (callRun E (k + 1))
  | 0, _, _, _, _, hr => by simp [callRun] at hr
  | k + 1, f, a, h, r, hr => by
    have ih := callRun_mono1 E k
    simp only [callRun] at hr
    unfold callRun
    cases he : E.ext f with
    | some g => simpa [he] using hr
    | none =>
      simp only [he] at hr ⊢
      cases hf : E.fns f with
      | none => simp [hf] at hr
      | some fn =>
        simp only [hf] at hr ⊢
        unfold bodyRun at hr ⊢
        split at hr
        · rename_i hlen
          rw [if_pos hlen]
          obtain ⟨x, h1, h2⟩ := bind_some_iff.1 hr
          exact bind_some_iff.2 ⟨x, codeRun_mono ih (Nat.le_succ k) _ h1, h2⟩
        · cases hr

theorem callRun_mono (E : Env) {k m : Nat} (h : k ≤ m) : CallF.le (callRun E k) (callRun E m) := by
  induction m with
  | zero => obtain rfl : k = 0 := by omega
            exact fun _ _ _ _ h => h
  | succ m ih =>
    by_cases e : k = m + 1
    · subst e; exact fun _ _ _ _ h => h
    · exact fun f a x r hr => callRun_mono1 E m f a x r (ih (by omega) f a x r hr)

noncomputable def lim {α : Type} (g : Nat → Option α) : Option α := open Classical in if h : ∃ k a, g k = some a then some h.choose_spec.choose else none

def Mono {α : Type} (g : Nat → Option α) : Prop := ∀ k m a, k ≤ m → g k = some a → g m = some a

theorem lim_iff {α : Type} {g : Nat → Option α} (hm : Mono g) {a : α} : lim g = some a ↔ ∃ k, g k = some a := by
  unfold lim
  split
  · rename_i h
    have hs := h.choose_spec.choose_spec
    constructor
    · intro e
      simp only [Option.some.injEq] at e
      exact ⟨_, by rw [← e]; exact hs⟩
    · rintro ⟨k, hk⟩
      have h1 := hm _ (max h.choose k) _ (Nat.le_max_left _ _) hs
      have h2 := hm _ (max h.choose k) _ (Nat.le_max_right _ _) hk
      rw [h1] at h2
      exact h2
  · rename_i h
    constructor
    · intro e; cases e
    · rintro ⟨k, hk⟩; exact absurd ⟨k, a, hk⟩ h

noncomputable def C (E : Env) : CallF := fun f a h => lim fun k => callRun E k f a h
noncomputable def X (E : Env) (c : AC) (fr : Fr) (h : AH) : Option (Ex × Fr × AH) := lim fun k => codeRun (callRun E k) k c fr h
noncomputable def LP (E : Env) (b : AC) (keep : List Nat) (fr : Fr) (h : AH) : Option (Ex × Fr × AH) := lim fun k => loopN (codeRun (callRun E k) k b) keep k fr h

variable {E : Env}

theorem mono_call {f : Nat} {a : List AV} {h : AH} : Mono fun k => callRun E k f a h := fun _ _ _ hk hr => callRun_mono E hk _ _ _ _ hr
theorem mono_code {c : AC} {fr : Fr} {h : AH} : Mono fun k => codeRun (callRun E k) k c fr h := fun _ _ _ hk hr => codeRun_mono (callRun_mono E hk) hk _ hr
theorem mono_loop {b : AC} {keep : List Nat} {fr : Fr} {h : AH} : Mono fun k => loopN (codeRun (callRun E k) k b) keep k fr h :=
  fun _ _ _ hk hr => loopN_mono (fun _ _ _ h => codeRun_mono (callRun_mono E hk) hk _ h) keep hk hr

theorem C_iff {f : Nat} {a : List AV} {h : AH} {r : AV × AH} : C E f a h = some r ↔ ∃ k, callRun E k f a h = some r := lim_iff mono_call
theorem X_iff {c : AC} {fr : Fr} {h : AH} {r : Ex × Fr × AH} : X E c fr h = some r ↔ ∃ k, codeRun (callRun E k) k c fr h = some r := lim_iff mono_code
theorem LP_iff {b : AC} {keep : List Nat} {fr : Fr} {h : AH} {r : Ex × Fr × AH} : LP E b keep fr h = some r ↔ ∃ k, loopN (codeRun (callRun E k) k b) keep k fr h = some r := lim_iff mono_loop

theorem le_C (k : Nat) : CallF.le (callRun E k) (C E) := fun _ _ _ _ h => C_iff.2 ⟨k, h⟩

theorem opRun_C {o : AOp} {fr : Fr} {h : AH} {r : AV × AH} (hr : opRun (C E) o fr h = some r) : ∃ k, opRun (callRun E k) o fr h = some r := by
  cases o
  case call f args => exact C_iff.1 hr
  case callv f args =>
    simp only [opRun] at hr ⊢
    cases hf : f.ev fr with
    | fn g a b => simp only [hf] at hr ⊢; exact C_iff.1 hr
    | _ => simp [hf] at hr
  all_goals exact ⟨0, hr⟩

theorem regRun_C : ∀ {ops : List AOper} {fr : Fr} {h : AH} {r : Fr × AH}, regRun (C E) ops fr h = some r → ∃ k, regRun (callRun E k) ops fr h = some r
  | [], _, _, _, hr => ⟨0, hr⟩
  | o :: ops, fr, h, r, hr => by
    simp only [regRun] at hr ⊢
    split
    · rename_i hw
      simp only [hw] at hr
      obtain ⟨x, h1, h2⟩ := bind_some_iff.1 hr
      obtain ⟨k, hk⟩ := opRun_C h1
      obtain ⟨m, hm⟩ := regRun_C h2
      exact ⟨max k m, bind_some_iff.2 ⟨x, opRun_mono (callRun_mono E (Nat.le_max_left _ _)) hk, regRun_mono (callRun_mono E (Nat.le_max_right _ _)) hm⟩⟩
    · rename_i hw
      simp only [hw] at hr
      exact regRun_C hr
    · rename_i hw
      simp [hw] at hr

theorem dRun_C : ∀ {ops : List DOp} {fr : Fr} {h : AH} {sn : List AH} {ck : List Ck} {r : Fr × AH × List AH × List Ck}, dRun (C E) ops fr h sn ck = some r → ∃ k, dRun (callRun E k) ops fr h sn ck = some r
  | [], _, _, _, _, _, hr => ⟨0, hr⟩
  | .val ix w o :: ops, fr, h, sn, ck, r, hr => by
    simp only [dRun] at hr ⊢
    split
    · rename_i hw
      simp only [hw] at hr
      obtain ⟨x, h1, h2⟩ := bind_some_iff.1 hr
      obtain ⟨k, hk⟩ := opRun_C h1
      obtain ⟨m, hm⟩ := dRun_C h2
      exact ⟨max k m, bind_some_iff.2 ⟨x, opRun_mono (callRun_mono E (Nat.le_max_left _ _)) hk, dRun_mono (callRun_mono E (Nat.le_max_right _ _)) hm⟩⟩
    · rename_i hw
      simp only [hw] at hr
      exact dRun_C hr
    · rename_i hw
      simp [hw] at hr
  | .eff als ix o :: ops, fr, h, sn, ck, r, hr => by
    simp only [dRun] at hr ⊢
    split
    · rename_i hw
      simp only [hw] at hr
      obtain ⟨x, h1, h2⟩ := bind_some_iff.1 hr
      obtain ⟨k, hk⟩ := opRun_C h1
      obtain ⟨m, hm⟩ := dRun_C h2
      exact ⟨max k m, bind_some_iff.2 ⟨x, opRun_mono (callRun_mono E (Nat.le_max_left _ _)) hk, dRun_mono (callRun_mono E (Nat.le_max_right _ _)) hm⟩⟩
    · rename_i hw
      simp only [hw] at hr
      exact dRun_C hr
    · rename_i hw
      simp [hw] at hr

theorem winAt_C {k : Ck} {H : AH} (hr : winAt (C E) k H = true) : ∃ n, winAt (callRun E n) k H = true := by
  unfold winAt at hr
  cases h1 : opRun (C E) k.o k.fr H with
  | none => simp [h1] at hr
  | some x =>
    obtain ⟨n, hn⟩ := opRun_C h1
    exact ⟨n, by unfold winAt; rw [hn]; simpa [h1] using hr⟩

theorem winAll_C {c : Ck} : ∀ {l : List AH}, (l.all fun H => winAt (C E) c H) = true → ∃ k, (l.all fun H => winAt (callRun E k) c H) = true
  | [], _ => ⟨0, rfl⟩
  | H :: l, hr => by
    simp only [List.all_cons, Bool.and_eq_true] at hr ⊢
    obtain ⟨k, hk⟩ := winAt_C hr.1
    obtain ⟨m, hm⟩ := winAll_C hr.2
    refine ⟨max k m, winAt_mono (callRun_mono E (Nat.le_max_left _ _)) hk, ?_⟩
    rw [List.all_eq_true] at hm ⊢
    exact fun H hH => winAt_mono (callRun_mono E (Nat.le_max_right _ _)) (hm H hH)

theorem winOK_C {sn : List AH} : ∀ {ck : List Ck}, winOK (C E) sn ck = true → ∃ k, winOK (callRun E k) sn ck = true
  | [], _ => ⟨0, rfl⟩
  | c :: ck, hr => by
    simp only [winOK, Bool.and_eq_true] at hr ⊢
    obtain ⟨m, hm⟩ := winOK_C hr.2
    obtain ⟨k, hk⟩ := winAll_C hr.1
    refine ⟨max k m, ?_, winOK_mono (callRun_mono E (Nat.le_max_right _ _)) hm⟩
    rw [List.all_eq_true] at hk ⊢
    exact fun H hH => winAt_mono (callRun_mono E (Nat.le_max_left _ _)) (hk H hH)

theorem regdRun_C {ops : List DOp} {als : List (Nat × Nat × List AV)} {fr : Fr} {h : AH} {r : Fr × AH} (hr : regdRun (C E) ops als fr h = some r) : ∃ k, regdRun (callRun E k) ops als fr h = some r := by
  simp only [regdRun] at hr ⊢
  obtain ⟨x, h1, h2⟩ := bind_some_iff.1 hr
  obtain ⟨k, hk⟩ := dRun_C h1
  split at h2
  · rename_i hw
    obtain ⟨m, hm⟩ := winOK_C hw
    refine ⟨max k m, bind_some_iff.2 ⟨x, dRun_mono (callRun_mono E (Nat.le_max_left _ _)) hk, ?_⟩⟩
    rw [if_pos (winOK_mono (callRun_mono E (Nat.le_max_right _ _)) hm)]
    exact h2
  · cases h2

theorem X_regd (ops : List DOp) (als : List (Nat × Nat × List AV)) (keep : List Nat) (fr : Fr) (h : AH) : X E (.regd ops als keep) fr h = (regdRun (C E) ops als fr h).bind fun x => some (.norm, keepFr keep x.1, x.2) := by
  apply Option.ext
  intro r
  rw [X_iff]
  constructor
  · rintro ⟨k, hk⟩
    simp only [codeRun] at hk
    obtain ⟨x, h1, h2⟩ := bind_some_iff.1 hk
    exact bind_some_iff.2 ⟨x, regdRun_mono (le_C k) h1, h2⟩
  · intro hr
    obtain ⟨x, h1, h2⟩ := bind_some_iff.1 hr
    obtain ⟨k, hk⟩ := regdRun_C h1
    exact ⟨k, bind_some_iff.2 ⟨x, hk, h2⟩⟩

theorem X_skip (fr : Fr) (h : AH) : X E .skip fr h = some (.norm, fr, h) := X_iff.2 ⟨0, rfl⟩
theorem X_ret (fr : Fr) (h : AH) : X E .ret fr h = some (.ret, fr, h) := X_iff.2 ⟨0, rfl⟩
theorem X_exit (id : Nat) (fr : Fr) (h : AH) : X E (.exit id) fr h = some (.exit id, fr, h) := X_iff.2 ⟨0, rfl⟩

theorem X_reg (ops : List AOper) (keep : List Nat) (fr : Fr) (h : AH) : X E (.reg ops keep) fr h = (regRun (C E) ops fr h).bind fun x => some (.norm, keepFr keep x.1, x.2) := by
  apply Option.ext
  intro r
  rw [X_iff]
  constructor
  · rintro ⟨k, hk⟩
    simp only [codeRun] at hk
    obtain ⟨x, h1, h2⟩ := bind_some_iff.1 hk
    exact bind_some_iff.2 ⟨x, regRun_mono (le_C k) h1, h2⟩
  · intro hr
    obtain ⟨x, h1, h2⟩ := bind_some_iff.1 hr
    obtain ⟨k, hk⟩ := regRun_C h1
    exact ⟨k, bind_some_iff.2 ⟨x, hk, h2⟩⟩

theorem X_seq (a b : AC) (fr : Fr) (h : AH) : X E (.seq a b) fr h = (X E a fr h).bind fun x => if x.1 = .norm then X E b x.2.1 x.2.2 else some x := by
  apply Option.ext
  intro r
  rw [X_iff]
  constructor
  · rintro ⟨k, hk⟩
    simp only [codeRun] at hk
    obtain ⟨x, h1, h2⟩ := bind_some_iff.1 hk
    refine bind_some_iff.2 ⟨x, X_iff.2 ⟨k, h1⟩, ?_⟩
    split
    · rename_i hx; simp only [hx, if_true] at h2; exact X_iff.2 ⟨k, h2⟩
    · rename_i hx; simpa [hx] using h2
  · intro hr
    obtain ⟨x, h1, h2⟩ := bind_some_iff.1 hr
    obtain ⟨k, hk⟩ := X_iff.1 h1
    by_cases hx : x.1 = .norm
    · simp only [hx, if_true] at h2
      obtain ⟨m, hm⟩ := X_iff.1 h2
      refine ⟨max k m, bind_some_iff.2 ⟨x, mono_code _ _ _ (Nat.le_max_left k m) hk, ?_⟩⟩
      simp only [hx, if_true]
      exact mono_code _ _ _ (Nat.le_max_right k m) hm
    · simp only [hx, if_false] at h2
      exact ⟨k, bind_some_iff.2 ⟨x, hk, by simpa [hx] using h2⟩⟩

theorem X_cond (c : Opd) (t e : AC) (fr : Fr) (h : AH) : X E (.cond c t e) fr h = match c.ev fr with | .bool b => if b then X E t fr h else X E e fr h | _ => none := by
  apply Option.ext
  intro r
  rw [X_iff]
  cases hc : c.ev fr with
  | bool b =>
    cases b <;> simp only [codeRun, hc, Bool.false_eq_true, if_false, if_true, X_iff]
  | _ => simp [codeRun, hc]

theorem X_block (id : Nat) (b : AC) (fr : Fr) (h : AH) : X E (.block id b) fr h = (X E b fr h).bind fun x => if x.1 = .exit id then some (.norm, x.2) else some x := by
  apply Option.ext
  intro r
  rw [X_iff]
  constructor
  · rintro ⟨k, hk⟩
    simp only [codeRun] at hk
    obtain ⟨x, h1, h2⟩ := bind_some_iff.1 hk
    exact bind_some_iff.2 ⟨x, X_iff.2 ⟨k, h1⟩, h2⟩
  · intro hr
    obtain ⟨x, h1, h2⟩ := bind_some_iff.1 hr
    obtain ⟨k, hk⟩ := X_iff.1 h1
    exact ⟨k, bind_some_iff.2 ⟨x, hk, h2⟩⟩

theorem X_loop (b : AC) (keep : List Nat) (fr : Fr) (h : AH) : X E (.loop b keep) fr h = LP E b keep fr h := rfl

theorem LP_eq (b : AC) (keep : List Nat) (fr : Fr) (h : AH) : LP E b keep fr h = (X E b (keepFr keep fr) h).bind fun x => if x.1 = .norm then LP E b keep x.2.1 x.2.2 else some x := by
  apply Option.ext
  intro r
  rw [LP_iff]
  constructor
  · rintro ⟨k, hk⟩
    cases k with
    | zero => simp [loopN] at hk
    | succ k =>
      simp only [loopN] at hk
      obtain ⟨x, h1, h2⟩ := bind_some_iff.1 hk
      refine bind_some_iff.2 ⟨x, X_iff.2 ⟨k + 1, h1⟩, ?_⟩
      split
      · rename_i hx; simp only [hx, if_true] at h2; exact LP_iff.2 ⟨k + 1, loopN_mono (fun _ _ _ h => h) keep (by omega) h2⟩
      · rename_i hx; simpa [hx] using h2
  · intro hr
    obtain ⟨x, h1, h2⟩ := bind_some_iff.1 hr
    obtain ⟨k, hk⟩ := X_iff.1 h1
    by_cases hx : x.1 = .norm
    · simp only [hx, if_true] at h2
      obtain ⟨m, hm⟩ := LP_iff.1 h2
      refine ⟨max k m + 1, ?_⟩
      simp only [loopN]
      refine bind_some_iff.2 ⟨x, mono_code _ _ _ (by omega : k ≤ max k m + 1) hk, ?_⟩
      simp only [hx, if_true]
      exact loopN_mono (fun _ _ _ h => codeRun_mono (callRun_mono E (by omega)) (by omega) _ h) keep (by omega : m ≤ max k m) hm
    · simp only [hx, if_false] at h2
      refine ⟨k + 1, ?_⟩
      simp only [loopN]
      exact bind_some_iff.2 ⟨x, mono_code _ _ _ (by omega : k ≤ k + 1) hk, by simpa [hx] using h2⟩

/-- a call -/
noncomputable def bodyX (E : Env) (fn : AFn) (args : List AV) (h : AH) : Option (AV × AH) :=
  if args.length ≤ fn.nt then
    (X E fn.code (argFr 0 args) h).bind fun x =>
      match x.1 with
      | .exit _ => none
      | _ => finish fn h.next x.2.1 x.2.2
  else none

theorem C_fn {f : Nat} {fn : AFn} (he : E.ext f = none) (hf : E.fns f = some fn) (a : List AV) (h : AH) : C E f a h = bodyX E fn a h := by
  apply Option.ext
  intro r
  rw [C_iff]
  unfold bodyX
  by_cases hlen : a.length ≤ fn.nt
  · rw [if_pos hlen]
    constructor
    · rintro ⟨k, hk⟩
      cases k with
      | zero => simp [callRun] at hk
      | succ k =>
        simp only [callRun, he, hf, bodyRun, hlen, if_true] at hk
        obtain ⟨x, h1, h2⟩ := bind_some_iff.1 hk
        exact bind_some_iff.2 ⟨x, X_iff.2 ⟨k, h1⟩, h2⟩
    · intro hr
      obtain ⟨x, h1, h2⟩ := bind_some_iff.1 hr
      obtain ⟨k, hk⟩ := X_iff.1 h1
      refine ⟨k + 1, ?_⟩
      simp only [callRun, he, hf, bodyRun, hlen, if_true]
      exact bind_some_iff.2 ⟨x, hk, h2⟩
  · rw [if_neg hlen]
    constructor
    · rintro ⟨k, hk⟩
      cases k with
      | zero => simp [callRun] at hk
      | succ k => simp [callRun, he, hf, bodyRun, hlen] at hk
    · intro hr; cases hr

theorem C_ext {f : Nat} {g : List AV → AH → Option (AV × AH)} (he : E.ext f = some g) (a : List AV) (h : AH) : C E f a h = g a h := by
  apply Option.ext
  intro r
  rw [C_iff]
  constructor
  · rintro ⟨k, hk⟩
    cases k with
    | zero => simp [callRun] at hk
    | succ k => simpa [callRun, he] using hk
  · intro hr
    exact ⟨1, by simpa [callRun, he] using hr⟩

end Go.Proofs.YtfahpmlckobpmaaGreatDoor.Pi
/-
  The abstract run as first-order rewriting: what is left to do stands in a list, so that 'simp only' walks through code without going under binders.
-/
namespace Go.Proofs.YtfahpmlckobpmaaGreatDoor.Pi
open Go

inductive Cont where
  | seq (b : AC)
  | blk (id : Nat)
  | lp (b : AC) (keep : List Nat)

abbrev Res := Option (Ex × Fr × AH)

noncomputable def KN (E : Env) : List Cont → Ex → Fr → AH → Res
  | [], e, fr, h => some (e, fr, h)
  | .seq b :: ks, e, fr, h => if e = .norm then (X E b fr h).bind fun x => KN E ks x.1 x.2.1 x.2.2 else KN E ks e fr h
  | .blk id :: ks, e, fr, h => if e = .exit id then KN E ks .norm fr h else KN E ks e fr h
  | .lp b keep :: ks, e, fr, h => if e = .norm then (LP E b keep fr h).bind fun x => KN E ks x.1 x.2.1 x.2.2 else KN E ks e fr h

noncomputable def XS (E : Env) (c : AC) (ks : List Cont) (fr : Fr) (h : AH) : Res := (X E c fr h).bind fun x => KN E ks x.1 x.2.1 x.2.2
noncomputable def XL (E : Env) (b : AC) (keep : List Nat) (ks : List Cont) (fr : Fr) (h : AH) : Res := (LP E b keep fr h).bind fun x => KN E ks x.1 x.2.1 x.2.2
/-- behind a loop of which it is known what it comes to -/
noncomputable def KR (E : Env) (ks : List Cont) (r : Res) : Res := r.bind fun x => KN E ks x.1 x.2.1 x.2.2
noncomputable def XR (E : Env) (ops : List AOper) (keep : List Nat) (ks : List Cont) (fr : Fr) (h : AH) : Res :=
  (regRun (C E) ops fr h).bind fun x => KN E ks .norm (keepFr keep x.1) x.2
noncomputable def XV (E : Env) (r : Option AV) (d : Option Nat) (ops : List AOper) (keep : List Nat) (ks : List Cont) (fr : Fr) (h : AH) : Res :=
  r.bind fun v => XR E ops keep ks (putFr fr d v) h
noncomputable def XH (E : Env) (r : Option (AV × AH)) (d : Option Nat) (ops : List AOper) (keep : List Nat) (ks : List Cont) (fr : Fr) : Res :=
  r.bind fun x => XR E ops keep ks (putFr fr d x.1) x.2
noncomputable def XG (E : Env) (w : Option Bool) (o : AOper) (ops : List AOper) (keep : List Nat) (ks : List Cont) (fr : Fr) (h : AH) : Res :=
  match w with
  | some true => XR E ({ o with guard := none } :: ops) keep ks fr h
  | some false => XR E ops keep ks (putFr fr o.dst (.tup [])) h
  | none => none
noncomputable def XB (E : Env) (v : AV) (t e : AC) (ks : List Cont) (fr : Fr) (h : AH) : Res :=
  match v with
  | .bool b => if b then XS E t ks fr h else XS E e ks fr h
  | _ => none

variable {E : Env} {ks : List Cont} {fr : Fr} {h : AH}

theorem XS_skip : XS E .skip ks fr h = KN E ks .norm fr h := by simp [XS, X_skip]
theorem XS_ret : XS E .ret ks fr h = KN E ks .ret fr h := by simp [XS, X_ret]
theorem XS_exit (id : Nat) : XS E (.exit id) ks fr h = KN E ks (.exit id) fr h := by simp [XS, X_exit]
theorem XS_reg (ops : List AOper) (keep : List Nat) : XS E (.reg ops keep) ks fr h = XR E ops keep ks fr h := by
  simp only [XS, XR, X_reg, Option.bind_assoc, Option.bind_some]
theorem XS_seq (a b : AC) : XS E (.seq a b) ks fr h = XS E a (.seq b :: ks) fr h := by
  simp only [XS, X_seq, Option.bind_assoc, KN]
  congr 1; funext x
  by_cases hx : x.1 = .norm <;> simp [hx]
theorem XS_cond (c : Opd) (t e : AC) : XS E (.cond c t e) ks fr h = XB E (c.ev fr) t e ks fr h := by
  simp only [XS, X_cond, XB]
  cases c.ev fr with
  | bool b => cases b <;> simp
  | _ => simp
theorem XS_block (id : Nat) (b : AC) : XS E (.block id b) ks fr h = XS E b (.blk id :: ks) fr h := by
  simp only [XS, X_block, Option.bind_assoc, KN]
  congr 1; funext x
  by_cases hx : x.1 = .exit id <;> simp [hx]

theorem fget_keep (fr : Fr) (t : Nat) : ∀ (keep : List Nat), fget (keepFr keep fr) t = if t ∈ keep then fget fr t else .any
  | [] => by simp [keepFr, fget]
  | i :: keep => by
    have ih := fget_keep fr t keep
    simp only [keepFr, List.map_cons, fget] at ih ⊢
    by_cases hi : i = t
    · subst hi; simp
    · simp only [hi, if_false, ih, List.mem_cons, Ne.symm hi, false_or]
theorem keep_keep (keep : List Nat) (fr : Fr) : keepFr keep (keepFr keep fr) = keepFr keep fr := by
  conv => lhs; unfold keepFr
  conv => rhs; unfold keepFr
  apply List.map_congr_left
  intro i hi
  have := fget_keep fr i keep
  unfold keepFr at this
  rw [this]
  simp [hi]

theorem LP_keep (b : AC) (keep : List Nat) : LP E b keep (keepFr keep fr) h = LP E b keep fr h := by
  rw [LP_eq, LP_eq b keep fr, keep_keep]

theorem XS_loop (b : AC) (keep : List Nat) : XS E (.loop b keep) ks fr h = XL E b keep ks (keepFr keep fr) h := by
  simp only [XS, XL, X_loop, LP_keep]
/-- with what is known of the loop -/
theorem XL_KR (b : AC) (keep : List Nat) : XL E b keep ks fr h = KR E ks (LP E b keep fr h) := rfl
theorem KR_some (e : Ex) (fr : Fr) (h : AH) : KR E ks (some (e, fr, h)) = KN E ks e fr h := rfl
theorem KR_nil (r : Res) : KR E [] r = r := by
  cases r with
  | none => rfl
  | some x => rfl
theorem KR_ite (c : Prop) [Decidable c] (x y : Res) : KR E ks (if c then x else y) = if c then KR E ks x else KR E ks y := by split <;> rfl

theorem KN_nil (e : Ex) : KN E [] e fr h = some (e, fr, h) := rfl
theorem KN_seq (b : AC) : KN E (.seq b :: ks) .norm fr h = XS E b ks fr h := by simp [KN, XS]
theorem KN_seq_exit (b : AC) (id : Nat) : KN E (.seq b :: ks) (.exit id) fr h = KN E ks (.exit id) fr h := by simp [KN]
theorem KN_seq_ret (b : AC) : KN E (.seq b :: ks) .ret fr h = KN E ks .ret fr h := by simp [KN]
theorem KN_blk (id : Nat) : KN E (.blk id :: ks) .norm fr h = KN E ks .norm fr h := by simp [KN]
theorem KN_blk_exit (id i : Nat) : KN E (.blk id :: ks) (.exit i) fr h = if i = id then KN E ks .norm fr h else KN E ks (.exit i) fr h := by simp [KN]
theorem KN_blk_ret (id : Nat) : KN E (.blk id :: ks) .ret fr h = KN E ks .ret fr h := by simp [KN]
theorem KN_lp (b : AC) (keep : List Nat) : KN E (.lp b keep :: ks) .norm fr h = KR E ks (LP E b keep (keepFr keep fr) h) := by simp [KN, KR, LP_keep]
theorem KN_lp_exit (b : AC) (keep : List Nat) (id : Nat) : KN E (.lp b keep :: ks) (.exit id) fr h = KN E ks (.exit id) fr h := by simp [KN]
theorem KN_lp_ret (b : AC) (keep : List Nat) : KN E (.lp b keep :: ks) .ret fr h = KN E ks .ret fr h := by simp [KN]

theorem LP_XS (b : AC) (keep : List Nat) : LP E b keep fr h = XS E b [.lp b keep] (keepFr keep fr) h := by
  rw [LP_eq]
  simp only [XS, KN]
  congr 1; funext x
  by_cases hx : x.1 = .norm
  · simp only [hx, if_true]
    cases LP E b keep x.2.1 x.2.2 <;> rfl
  · simp only [hx, if_false]

theorem XB_bool (b : Bool) (t e : AC) : XB E (.bool b) t e ks fr h = if b then XS E t ks fr h else XS E e ks fr h := rfl
theorem XB_true (t e : AC) : XB E (.bool true) t e ks fr h = XS E t ks fr h := rfl
theorem XB_false (t e : AC) : XB E (.bool false) t e ks fr h = XS E e ks fr h := rfl

variable {ops : List AOper} {keep : List Nat} {d : Option Nat}
theorem XR_nil : XR E [] keep ks fr h = KN E ks .norm (keepFr keep fr) h := rfl
theorem XV_some (v : AV) : XV E (some v) d ops keep ks fr h = XR E ops keep ks (putFr fr d v) h := rfl
theorem XH_some (v : AV) (h : AH) : XH E (some (v, h)) d ops keep ks fr = XR E ops keep ks (putFr fr d v) h := rfl
theorem XG_true (o : AOp) (g : Option (Nat × Bool)) : XG E (some true) ⟨d, o, g⟩ ops keep ks fr h = XR E (⟨d, o, none⟩ :: ops) keep ks fr h := rfl
theorem XG_false (o : AOp) (g : Option (Nat × Bool)) : XG E (some false) ⟨d, o, g⟩ ops keep ks fr h = XR E ops keep ks (putFr fr d (.tup [])) h := rfl
theorem XR_guard (o : AOp) (t : Nat) (b : Bool) : XR E (⟨d, o, some (t, b)⟩ :: ops) keep ks fr h = XG E (opWanted fr (some (t, b))) ⟨d, o, some (t, b)⟩ ops keep ks fr h := by
  simp only [XR, regRun, XG]
  cases opWanted fr (some (t, b)) with
  | none => rfl
  | some w => cases w <;> rfl
theorem XR_op (o : AOp) : XR E (⟨d, o, none⟩ :: ops) keep ks fr h = XH E (opRun (C E) o fr h) d ops keep ks fr := by
  simp only [XR, regRun, opWanted, XH, Option.bind_assoc]

theorem XR_mv (x : Opd) : XR E (⟨d, .mv x, none⟩ :: ops) keep ks fr h = XR E ops keep ks (putFr fr d (x.ev fr)) h := by simp only [XR_op, opRun, XH_some]
theorem XH_map (r : Option AV) : XH E (r.map fun v => (v, h)) d ops keep ks fr = XV E r d ops keep ks fr h := by cases r <;> rfl
theorem XR_bin (kd : EqK) (op : BinOp) (x y : Opd) : XR E (⟨d, .bin kd op x y, none⟩ :: ops) keep ks fr h = XV E (binOpA kd op (x.ev fr) (y.ev fr)) d ops keep ks fr h := by simp only [XR_op, opRun, XH_map]
theorem XR_un (op : UnOp) (x : Opd) : XR E (⟨d, .un op x, none⟩ :: ops) keep ks fr h = XV E (unOpA op (x.ev fr)) d ops keep ks fr h := by simp only [XR_op, opRun, XH_map]
theorem XR_call (f : Nat) (args : List Opd) : XR E (⟨d, .call f args, none⟩ :: ops) keep ks fr h = XH E (C E f (evL fr args) h) d ops keep ks fr := by simp only [XR_op, opRun]

/-! the same, for each kind -/
theorem XR_mvt (i s : Nat) : XR E (⟨some i, .mv (.t s), none⟩ :: ops) keep ks fr h = XR E ops keep ks ((i, fget fr s) :: fr) h := XR_mv _
theorem XR_mvc (i : Nat) (v : AV) : XR E (⟨some i, .mv (.c v), none⟩ :: ops) keep ks fr h = XR E ops keep ks ((i, v) :: fr) h := XR_mv _
theorem XR_o_pick (c a b : Opd) : XR E (⟨d, .pick c a b, none⟩ :: ops) keep ks fr h = XH E (opRun (C E) (.pick c a b) fr h) d ops keep ks fr := XR_op _
theorem XR_o_alloc (zero : List AV) : XR E (⟨d, .alloc zero, none⟩ :: ops) keep ks fr h = XH E (opRun (C E) (.alloc zero) fr h) d ops keep ks fr := XR_op _
theorem XR_o_boxv (x : Opd) : XR E (⟨d, .boxv x, none⟩ :: ops) keep ks fr h = XH E (opRun (C E) (.boxv x) fr h) d ops keep ks fr := XR_op _
theorem XR_o_boxm (x : Opd) : XR E (⟨d, .boxm x, none⟩ :: ops) keep ks fr h = XH E (opRun (C E) (.boxm x) fr h) d ops keep ks fr := XR_op _
theorem XR_o_build (zero : List AV) (parts : List (Nat × Nat × Opd)) : XR E (⟨d, .build zero parts, none⟩ :: ops) keep ks fr h = XH E (opRun (C E) (.build zero parts) fr h) d ops keep ks fr := XR_op _
theorem XR_o_bslice (zero : List AV) (len : Nat) (parts : List (Nat × Opd)) : XR E (⟨d, .bslice zero len parts, none⟩ :: ops) keep ks fr h = XH E (opRun (C E) (.bslice zero len parts) fr h) d ops keep ks fr := XR_op _
theorem XR_o_bslicem (zero : List AV) (len : Nat) (parts : List (Nat × Opd)) : XR E (⟨d, .bslicem zero len parts, none⟩ :: ops) keep ks fr h = XH E (opRun (C E) (.bslicem zero len parts) fr h) d ops keep ks fr := XR_op _
theorem XR_o_load (agg : Bool) (s : Nat) (x : Opd) : XR E (⟨d, .load agg s x, none⟩ :: ops) keep ks fr h = XH E (opRun (C E) (.load agg s x) fr h) d ops keep ks fr := XR_op _
theorem XR_o_store (s : Nat) (a x : Opd) : XR E (⟨d, .store s a x, none⟩ :: ops) keep ks fr h = XH E (opRun (C E) (.store s a x) fr h) d ops keep ks fr := XR_op _
theorem XR_o_nilck (x : Opd) : XR E (⟨d, .nilck x, none⟩ :: ops) keep ks fr h = XH E (opRun (C E) (.nilck x) fr h) d ops keep ks fr := XR_op _
theorem XR_o_conv (k : IntKind) (x : Opd) : XR E (⟨d, .conv k x, none⟩ :: ops) keep ks fr h = XH E (opRun (C E) (.conv k x) fr h) d ops keep ks fr := XR_op _
theorem XR_o_mkI (t : Nat) (x : Opd) : XR E (⟨d, .mkI t x, none⟩ :: ops) keep ks fr h = XH E (opRun (C E) (.mkI t x) fr h) d ops keep ks fr := XR_op _
theorem XR_o_mkF (f : Nat) (first captured : List Opd) : XR E (⟨d, .mkF f first captured, none⟩ :: ops) keep ks fr h = XH E (opRun (C E) (.mkF f first captured) fr h) d ops keep ks fr := XR_op _
theorem XR_o_mkMap  : XR E (⟨d, .mkMap , none⟩ :: ops) keep ks fr h = XH E (opRun (C E) (.mkMap ) fr h) d ops keep ks fr := XR_op _
theorem XR_o_mkSlice (zero : List AV) (len cap : Opd) : XR E (⟨d, .mkSlice zero len cap, none⟩ :: ops) keep ks fr h = XH E (opRun (C E) (.mkSlice zero len cap) fr h) d ops keep ks fr := XR_op _
theorem XR_o_mkSlicev (zero : List AV) (cap : Opd) : XR E (⟨d, .mkSlicev zero cap, none⟩ :: ops) keep ks fr h = XH E (opRun (C E) (.mkSlicev zero cap) fr h) d ops keep ks fr := XR_op _
theorem XR_o_slc (esz : Nat) (x : Opd) (lo hi mx : Option Opd) : XR E (⟨d, .slc esz x lo hi mx, none⟩ :: ops) keep ks fr h = XH E (opRun (C E) (.slc esz x lo hi mx) fr h) d ops keep ks fr := XR_op _
theorem XR_o_slcs (x : Opd) (lo hi : Option Opd) : XR E (⟨d, .slcs x lo hi, none⟩ :: ops) keep ks fr h = XH E (opRun (C E) (.slcs x lo hi) fr h) d ops keep ks fr := XR_op _
theorem XR_o_fa (off : Nat) (x : Opd) : XR E (⟨d, .fa off x, none⟩ :: ops) keep ks fr h = XH E (opRun (C E) (.fa off x) fr h) d ops keep ks fr := XR_op _
theorem XR_o_fld (agg : Bool) (off s : Nat) (x : Opd) : XR E (⟨d, .fld agg off s x, none⟩ :: ops) keep ks fr h = XH E (opRun (C E) (.fld agg off s x) fr h) d ops keep ks fr := XR_op _
theorem XR_o_ixa (esz : Nat) (x i : Opd) : XR E (⟨d, .ixa esz x i, none⟩ :: ops) keep ks fr h = XH E (opRun (C E) (.ixa esz x i) fr h) d ops keep ks fr := XR_op _
theorem XR_o_ixarr (len esz : Nat) (x i : Opd) : XR E (⟨d, .ixarr len esz x i, none⟩ :: ops) keep ks fr h = XH E (opRun (C E) (.ixarr len esz x i) fr h) d ops keep ks fr := XR_op _
theorem XR_o_ix (x i : Opd) : XR E (⟨d, .ix x i, none⟩ :: ops) keep ks fr h = XH E (opRun (C E) (.ix x i) fr h) d ops keep ks fr := XR_op _
theorem XR_o_ixagg (agg : Bool) (len esz : Nat) (x i : Opd) : XR E (⟨d, .ixagg agg len esz x i, none⟩ :: ops) keep ks fr h = XH E (opRun (C E) (.ixagg agg len esz x i) fr h) d ops keep ks fr := XR_op _
theorem XR_o_lookup (kk : Nat) (ok : Bool) (zero : AV) (x k : Opd) : XR E (⟨d, .lookup kk ok zero x k, none⟩ :: ops) keep ks fr h = XH E (opRun (C E) (.lookup kk ok zero x k) fr h) d ops keep ks fr := XR_op _
theorem XR_o_mapset (kk : Nat) (m k v : Opd) : XR E (⟨d, .mapset kk m k v, none⟩ :: ops) keep ks fr h = XH E (opRun (C E) (.mapset kk m k v) fr h) d ops keep ks fr := XR_op _
theorem XR_o_tassert (ok : Bool) (t : Nat) (zero : AV) (x : Opd) : XR E (⟨d, .tassert ok t zero x, none⟩ :: ops) keep ks fr h = XH E (opRun (C E) (.tassert ok t zero x) fr h) d ops keep ks fr := XR_op _
theorem XR_o_extr (x : Opd) (i : Nat) : XR E (⟨d, .extr x i, none⟩ :: ops) keep ks fr h = XH E (opRun (C E) (.extr x i) fr h) d ops keep ks fr := XR_op _
theorem XR_o_callv (f : Opd) (args : List Opd) : XR E (⟨d, .callv f args, none⟩ :: ops) keep ks fr h = XH E (opRun (C E) (.callv f args) fr h) d ops keep ks fr := XR_op _
theorem XR_o_lens (x : Opd) : XR E (⟨d, .lens x, none⟩ :: ops) keep ks fr h = XH E (opRun (C E) (.lens x) fr h) d ops keep ks fr := XR_op _
theorem XR_o_lenv (x : Opd) : XR E (⟨d, .lenv x, none⟩ :: ops) keep ks fr h = XH E (opRun (C E) (.lenv x) fr h) d ops keep ks fr := XR_op _
theorem XR_o_lenm (x : Opd) : XR E (⟨d, .lenm x, none⟩ :: ops) keep ks fr h = XH E (opRun (C E) (.lenm x) fr h) d ops keep ks fr := XR_op _
theorem XR_o_imin (x y : Opd) : XR E (⟨d, .imin x y, none⟩ :: ops) keep ks fr h = XH E (opRun (C E) (.imin x y) fr h) d ops keep ks fr := XR_op _
theorem XR_o_append (esz : Nat) (x y : Opd) : XR E (⟨d, .append esz x y, none⟩ :: ops) keep ks fr h = XH E (opRun (C E) (.append esz x y) fr h) d ops keep ks fr := XR_op _
theorem XR_o_appendm (esz : Nat) (x y : Opd) : XR E (⟨d, .appendm esz x y, none⟩ :: ops) keep ks fr h = XH E (opRun (C E) (.appendm esz x y) fr h) d ops keep ks fr := XR_op _
theorem XR_o_copy (x y : Opd) : XR E (⟨d, .copy x y, none⟩ :: ops) keep ks fr h = XH E (opRun (C E) (.copy x y) fr h) d ops keep ks fr := XR_op _
theorem XR_o_unreach  : XR E (⟨d, .unreach , none⟩ :: ops) keep ks fr h = XH E (opRun (C E) (.unreach ) fr h) d ops keep ks fr := XR_op _
/-- a call's end -/
def FIN (fn : AFn) (n : Nat) (x : Ex × Fr × AH) : Option (AV × AH) :=
  match x.1 with
  | .exit _ => none
  | _ => finish fn n x.2.1 x.2.2
theorem C_XS {f : Nat} {fn : AFn} (he : E.ext f = none) (hf : E.fns f = some fn) (a : List AV) (h : AH) (hl : a.length ≤ fn.nt) : C E f a h = (XS E fn.code [] (argFr 0 a) h).bind (FIN fn h.next) := by
  rw [C_fn he hf]
  simp only [bodyX, XS, KN, hl, if_true]
  cases X E fn.code (argFr 0 a) h <;> rfl
end Go.Proofs.YtfahpmlckobpmaaGreatDoor.Pi
