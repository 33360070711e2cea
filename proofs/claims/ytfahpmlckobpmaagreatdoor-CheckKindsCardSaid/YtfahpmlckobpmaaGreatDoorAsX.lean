/-
  errors.As, told: what it is shown to do, as the abstract run has it.
-/
import Derived.Test.YtfahpmlckobpmaaGreatDoorAsC
import Derived.Test.YtfahpmlckobpmaaGreatDoorAsB
import Derived.Test.YtfahpmlckobpmaaGreatDoorChk
set_option linter.unusedSimpArgs false
set_option linter.unusedVariables false
set_option linter.unusedSectionVars false
namespace Go.Proofs.YtfahpmlckobpmaaGreatDoor.Pi
open Go

section
variable {P : Program} {g : G} {h : AH} {W : World}

/-- the cell of a variable that is written by number -/
theorem ptr_cell (hr : HRel g h W) {id row off z : Nat} {rs : List (List AV)} {cs : List AV} (hg : h.get id = some (.rows z rs)) (hrow : rs[row]? = some cs) (ho : off < cs.length) {V : Nat → Nat → Prop} {v : Value} (hp : VRel g W V (.ptr id row off) v) :
    ∃ (a : Addr) (old : Value), v = .pointer (some a) ∧ W.cell? a = some old ∧ W.frozen? a = false := by
  obtain ⟨r, x, c, t, hm, hh, _, hrel⟩ := hr.blk id _ hg
  obtain ⟨r', x', z', hm', rfl⟩ := inv_ptr hp
  rw [hm] at hm'; simp at hm'; obtain ⟨rfl, rfl, rfl⟩ := hm'
  obtain ⟨⟨hz, _⟩, h2⟩ := hrel row cs hrow
  obtain ⟨w, h3, _⟩ := h2 off cs[off] (by simp [ho])
  refine ⟨_, w, rfl, by simp [World.cell?, hh, h3], ?_⟩
  simp [World.frozen?, hh]

theorem set_cell (hr : HRel g h W) {t : TypeId} (hs : sizeOK P t 1 = true) {id row off z : Nat} {a : Addr} (hp : VRel g W (U g h) (.ptr id row off) (.pointer (some a))) {x : AV} {v : Value} (hv : VRel g W (U g h) x v)
    {rs : List (List AV)} (hg : h.get id = some (.rows z rs)) {cs cs' : List AV} (hrow : rs[row]? = some cs) (hc : cellsOf x = some [x]) (hsp : splice cs off [x] = some cs') (hrun : (Instr.storeAt t (.pointer (some a)) v).run P W = .ok () (W.setCell a v)) :
    HRel g ((h.set id (.rows z (rs.set row cs'))).note id (refsL [x])) (W.setCell a v) ∧ Ext g h W g ((h.set id (.rows z (rs.set row cs'))).note id (refsL [x])) (W.setCell a v) := by
  obtain ⟨W', h1, h2, h3⟩ := store_sound (P := P) hr hs hp hv hg hrow hc rfl hsp
  rw [hrun] at h1
  simp at h1
  subst h1
  exact ⟨h2, h3⟩
end

theorem run_callAs (vs : Array Value) (W : World) : (callFunc K_errors_As vs).run Go.Proofs.Tryz.prog W = .ok (.enter K_errors_As vs) W := by
  unfold callFunc
  rw [Sem.run_bind, run_program]
  have h1 : Go.Proofs.Tryz.prog.funcs[K_errors_As]? = some Go.Proofs.Tryz.f39 := Go.Proofs.Tryz.func39
  simp [h1, Go.Proofs.Tryz.f39]
end Go.Proofs.YtfahpmlckobpmaaGreatDoor.Pi
/-
  errors.As, told, 2: the law.
-/
namespace Go.Proofs.YtfahpmlckobpmaaGreatDoor.Pi
open Go

theorem store67 (a : Addr) (n : Int) (old : Value) (W : World) (ht : W.cell? a = some old) (hf : W.frozen? a = false) : (Instr.storeAt T_api_Errno (.pointer (some a)) (.int .i64 n)).run Go.Proofs.Tryz.prog W = .ok () (W.setCell a (.int .i64 n)) := by
  have hs : (sizeOf T_api_Errno).run Go.Proofs.Tryz.prog W = .ok 1 W := run_size (by decide +kernel)
  unfold Instr.storeAt Instr.sureAddr storeVar
  simp only [Sem.run_bind, Sem.run_pure, Result.andThen_ok, hs]
  simp [Value.cells, storeCells, Addr.add]
  rw [run_store Go.Proofs.Tryz.prog W a _ _ (by rfl)]
  simp [ht, hf]
theorem store155 (a b : Addr) (old : Value) (W : World) (ht : W.cell? a = some old) (hf : W.frozen? a = false) : (Instr.storeAt T_P_api_At (.pointer (some a)) (.pointer (some b))).run Go.Proofs.Tryz.prog W = .ok () (W.setCell a (.pointer (some b))) := by
  have hs : (sizeOf T_P_api_At).run Go.Proofs.Tryz.prog W = .ok 1 W := run_size (by decide +kernel)
  unfold Instr.storeAt Instr.sureAddr storeVar
  simp only [Sem.run_bind, Sem.run_pure, Result.andThen_ok, hs]
  simp [Value.cells, storeCells, Addr.add]
  rw [run_store Go.Proofs.Tryz.prog W a _ _ (by rfl)]
  simp [ht, hf]

theorem storeAt_inv {id row off : Nat} {v : AV} {h h' : AH} (hs : storeAt id row off v h = some h') : ∃ z rs cs cs', h.get id = some (.rows z rs) ∧ rs[row]? = some cs ∧ splice cs off [v] = some cs' ∧ h' = (h.set id (.rows z (rs.set row cs'))).note id (refsL [v]) ∧ off < cs.length := by
  unfold storeAt at hs
  split at hs
  · rename_i z rs hg
    obtain ⟨cs, h1, h2⟩ := bind_some_iff.1 hs
    obtain ⟨cs', h3, h4⟩ := bind_some_iff.1 h2
    simp only [Option.some.injEq] at h4
    exact ⟨z, rs, cs, cs', hg, h1, h3, h4.symm, by have := (splice_get h3).1; simp at this; omega⟩
  · cases hs

section
variable {P : Program} {g : G} {h : AH} {W : World}
theorem args_two {aL : List AV} {vs : Array Value} (ha : ArgsR g W (U g h) aL vs) {a b : AV} (e : aL = [a, b]) : ∃ x y, vs = #[x, y] ∧ VRel g W (U g h) a x ∧ VRel g W (U g h) b y := by
  subst e
  obtain ⟨hl, hv⟩ := ha
  have hsz : vs.size = 2 := by rw [← hl]; rfl
  refine ⟨vs[0], vs[1], ?_, hv 0 a vs[0] rfl (by simp [hsz]), hv 1 b vs[1] rfl (by simp [hsz])⟩
  apply Array.ext
  · simpa using hsz
  · intro i h1 h2
    match i, h2 with
    | 0, _ => rfl
    | 1, _ => rfl
end

set_option maxHeartbeats 1000000 in
theorem as_ext : ExtS Go.Proofs.Tryz.prog K_errors_As (kAs T_api_Errno T_P_api_Errno T_P_api_At T_P_P_api_At) := by
  intro aL g h W v h' vs hk hr ha
  have h0 := (hr.gl (0, .iface 260 (.agg #[.pointer (some ⟨2, 33, none⟩)])) (by simp [GL])).2
  have tN : T_api_Errno = 67 := rfl
  have tPN : T_P_api_Errno = 154 := rfl
  have tA : T_P_api_At = 155 := rfl
  have tPA : T_P_P_api_At = 156 := rfl
  rw [run_callAs]
  show Calls Go.Proofs.Tryz.prog K_errors_As vs W _
  unfold kAs at hk
  split at hk
  · rename_i q _
    simp only [Option.some.injEq, Prod.mk.injEq] at hk
    obtain ⟨rfl, rfl⟩ := hk
    obtain ⟨x, y, rfl, hx, hy⟩ := args_two ha rfl
    obtain rfl := inv_nili hx
    refine (As.as_nil y W).mono fun e w' he => ?_
    obtain ⟨rfl, rfl⟩ := he
    exact ⟨g, hr, Ext.refl _ _ _, .pure _ _ (.bool _)⟩
  · rename_i _ te n tt id row off
    obtain ⟨x, y, rfl, hx, hy⟩ := args_two ha rfl
    obtain ⟨x', rfl, hx'⟩ := inv_iface hx
    obtain ⟨y', rfl, hy'⟩ := inv_iface hy
    obtain rfl := inv_int hx'
    split at hk
    · rename_i e1
      subst e1
      split at hk
      · rename_i e2
        subst e2
        obtain ⟨h1, s1, s2⟩ := Option.map_eq_some_iff.1 hk
        simp only [Prod.mk.injEq] at s2
        obtain ⟨rfl, rfl⟩ := s2
        obtain ⟨z, rs, cs, cs', g1, g2, g3, rfl, g5⟩ := storeAt_inv s1
        obtain ⟨a, old, rfl, c1, c2⟩ := ptr_cell hr g1 g2 g5 hy'
        refine (As.as_NN n a old W h0 c1 c2).mono fun e w' he => ?_
        obtain ⟨rfl, rfl⟩ := he
        have m := ((((More.refl W).alloc (.cells #[.pointer (some a)] 154)).alloc (.cells #[.pointer (some ⟨2, 154, none⟩), .pointer (some ⟨W.heap.size, 0, none⟩), .int .u64 150] 222)).alloc (.cells #[.pointer (some ⟨2, 154, none⟩), .pointer (some ⟨W.heap.size, 0, none⟩), .int .u64 150] 222)).alloc (.cells #[.int .i64 n] 67)
        obtain ⟨r1, r2⟩ := more_sound hr m
        have hy2 := hy'.ext r2
        obtain ⟨a', old', e', c1', c2'⟩ := ptr_cell r1 g1 g2 g5 hy2
        simp at e'
        subst e'
        obtain ⟨r3, r4⟩ := set_cell (P := Go.Proofs.Tryz.prog) r1 (t := T_api_Errno) (by decide +kernel) hy2 (hx'.ext r2) g1 g2 rfl g3 (store67 _ _ _ _ c1' c2')
        exact ⟨g, r3, r2.trans r4, .pure _ _ (.bool _)⟩
      · rename_i e2
        split at hk
        · rename_i e3
          subst e3
          obtain ⟨b, b1, b2⟩ := bind_some_iff.1 hk
          cases b with
          | rows z rs =>
            obtain ⟨cs, b3, b4⟩ := bind_some_iff.1 b2
            split at b4
            · rename_i hoff
              simp only [Option.some.injEq, Prod.mk.injEq] at b4
              obtain ⟨rfl, rfl⟩ := b4
              obtain ⟨a, old, rfl, c1, c2⟩ := ptr_cell hr b1 b3 hoff hy'
              refine (As.as_NA n a old W h0 c1 c2).mono fun e w' he => ?_
              obtain ⟨rfl, rfl⟩ := he
              have m := (((More.refl W).alloc (.cells #[.pointer (some a)] 156)).alloc (.cells #[.pointer (some ⟨2, 156, none⟩), .pointer (some ⟨W.heap.size, 0, none⟩), .int .u64 150] 222)).alloc (.cells #[.pointer (some ⟨2, 156, none⟩), .pointer (some ⟨W.heap.size, 0, none⟩), .int .u64 150] 222)
              obtain ⟨r1, r2⟩ := more_sound hr m
              exact ⟨g, r1, r2, .pure _ _ (.bool _)⟩
            · cases b4
          | map es => cases b2
          | grow z f => cases b2
        · cases hk
    · cases hk
  · rename_i _ te cs tt id row off
    obtain ⟨x, y, rfl, hx, hy⟩ := args_two ha rfl
    obtain ⟨x', rfl, hx'⟩ := inv_iface hx
    obtain ⟨y', rfl, hy'⟩ := inv_iface hy
    obtain ⟨b, off', val, rfl, hc, q1, q2⟩ := inv_ref hx'
    split at hk
    · rename_i e1
      subst e1
      split at hk
      · rename_i e2
        subst e2
        split at hk
        · rename_i w0 tn n
          split at hk
          · rename_i e3
            subst e3
            obtain ⟨h1, s1, s2⟩ := Option.map_eq_some_iff.1 hk
            simp only [Prod.mk.injEq] at s2
            obtain ⟨rfl, rfl⟩ := s2
            obtain ⟨z, rs, cs, cs', g1, g2, g3, rfl, g5⟩ := storeAt_inv s1
            obtain ⟨a, old, rfl, c1, c2⟩ := ptr_cell hr g1 g2 g5 hy'
            have hu := (q1 1 (.iface T_api_Errno (.int .i64 n)) rfl).2
            obtain ⟨u, hu1, hu2⟩ := inv_iface (q2 1 (.iface T_api_Errno (.int .i64 n)) rfl)
            obtain rfl := inv_int hu2
            rw [hu1] at hu
            refine (As.as_AN b off' n a old W h0 c1 c2 hu).mono fun e w' he => ?_
            obtain ⟨rfl, rfl⟩ := he
            have m := ((((More.refl W).alloc (.cells #[.pointer (some a)] 154)).alloc (.cells #[.pointer (some ⟨2, 154, none⟩), .pointer (some ⟨W.heap.size, 0, none⟩), .int .u64 150] 222)).alloc (.cells #[.pointer (some ⟨2, 154, none⟩), .pointer (some ⟨W.heap.size, 0, none⟩), .int .u64 150] 222)).alloc (.cells #[.int .i64 n] 67)
            obtain ⟨r1, r2⟩ := more_sound hr m
            have hy2 := hy'.ext r2
            obtain ⟨a', old', e', c1', c2'⟩ := ptr_cell r1 g1 g2 g5 hy2
            simp at e'
            subst e'
            obtain ⟨r3, r4⟩ := set_cell (P := Go.Proofs.Tryz.prog) r1 (t := T_api_Errno) (by decide +kernel) hy2 (hu2.ext r2) g1 g2 rfl g3 (store67 _ _ _ _ c1' c2')
            exact ⟨g, r3, r2.trans r4, .pure _ _ (.bool _)⟩
          · cases hk
        · cases hk
      · split at hk
        · rename_i e3
          subst e3
          obtain ⟨h1, s1, s2⟩ := Option.map_eq_some_iff.1 hk
          simp only [Prod.mk.injEq] at s2
          obtain ⟨rfl, rfl⟩ := s2
          obtain ⟨z, rs, cs, cs', g1, g2, g3, rfl, g5⟩ := storeAt_inv s1
          obtain ⟨a, old, rfl, c1, c2⟩ := ptr_cell hr g1 g2 g5 hy'
          refine (As.as_AA (some ⟨b, off', none⟩) a old W h0 c1 c2).mono fun e w' he => ?_
          obtain ⟨rfl, rfl⟩ := he
          have m := ((((More.refl W).alloc (.cells #[.pointer (some a)] 156)).alloc (.cells #[.pointer (some ⟨2, 156, none⟩), .pointer (some ⟨W.heap.size, 0, none⟩), .int .u64 150] 222)).alloc (.cells #[.pointer (some ⟨2, 156, none⟩), .pointer (some ⟨W.heap.size, 0, none⟩), .int .u64 150] 222)).alloc (.cells #[.pointer (some ⟨b, off', none⟩)] 155)
          obtain ⟨r1, r2⟩ := more_sound hr m
          have hy2 := hy'.ext r2
          obtain ⟨a', old', e', c1', c2'⟩ := ptr_cell r1 g1 g2 g5 hy2
          simp at e'
          subst e'
          obtain ⟨r3, r4⟩ := set_cell (P := Go.Proofs.Tryz.prog) r1 (t := T_P_api_At) (by decide +kernel) hy2 (hx'.ext r2) g1 g2 rfl g3 (store155 _ _ _ _ c1' c2')
          exact ⟨g, r3, r2.trans r4, .pure _ _ (.bool _)⟩
        · cases hk
    · cases hk
  · cases hk
end Go.Proofs.YtfahpmlckobpmaaGreatDoor.Pi
