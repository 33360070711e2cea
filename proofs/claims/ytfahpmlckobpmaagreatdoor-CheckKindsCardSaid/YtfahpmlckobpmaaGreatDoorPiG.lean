/-
  Regions in whatever order: the variables' step, and the region's law.
-/
import Derived.Test.YtfahpmlckobpmaaGreatDoorPiF
import Derived.LoopN
set_option linter.unusedSimpArgs false
set_option linter.unusedVariables false
set_option linter.unusedSectionVars false
namespace Go.Proofs.YtfahpmlckobpmaaGreatDoor.Pi
open Go

theorem adst_sub : ∀ (ds : List DOp), (adst (alsOf ds)).Sublist (dsts ds)
  | [] => List.Sublist.refl _
  | .val ix w o :: r => by
    simp only [alsOf, dsts]
    exact (adst_sub r).trans (List.sublist_append_right _ _)
  | .eff als ix o :: r => by
    simp only [alsOf, dsts, elDsts, elAls, adst, List.map_append]
    exact List.Sublist.append (List.sublist_append_left _ _) (adst_sub r)

theorem map_inj {α β : Type} {f : α → β} : ∀ {l : List α}, (l.map f).Nodup → ∀ {x y : α}, x ∈ l → y ∈ l → f x = f y → x = y
  | [], _, x, y, h, _, _ => by cases h
  | a :: l, hn, x, y, hx, hy, e => by
    simp only [List.map_cons, List.nodup_cons] at hn
    rcases List.mem_cons.1 hx with h1 | h1
    · rcases List.mem_cons.1 hy with h2 | h2
      · rw [h1, h2]
      · subst h1; exact absurd (List.mem_map.2 ⟨y, h2, e.symm⟩) hn.1
    · rcases List.mem_cons.1 hy with h2 | h2
      · subst h2; exact absurd (List.mem_map.2 ⟨x, h1, e⟩) hn.1
      · exact map_inj hn.2 h1 h2 e

theorem filter_lt {p : Nat → Bool} {i : Nat} (hp : p i = true) : ∀ {l : List Nat}, i ∈ l → (l.filter fun j => p j && (j != i)).length < (l.filter p).length
  | a :: l, h => by
    have hle : ∀ l : List Nat, (l.filter fun j => p j && (j != i)).length ≤ (l.filter p).length := by
      intro l
      induction l with
      | nil => simp
      | cons b l ih =>
        simp only [List.filter_cons]
        by_cases hb : p b = true
        · by_cases hbi : b = i
          · subst hbi; simp [hb]; omega
          · simp [hb, hbi]; exact ih
        · simp [hb]; exact ih
    by_cases ha : a = i
    · subst ha
      simp only [List.filter_cons, hp, bne_self_eq_false, Bool.and_false, Bool.false_eq_true, if_false, if_true, List.length_cons]
      have := hle l
      omega
    · have hm : i ∈ l := (List.mem_cons.1 h).resolve_left (Ne.symm ha)
      have := filter_lt hp hm
      simp only [List.filter_cons]
      by_cases hb : p a = true
      · simp [hb, ha]; exact this
      · simp [hb]; exact this

section
variable {P : Program} {call : CallF} {ops : Array Oper} {nt : Nat} {ds : List DOp} {tail : Als} {fr0 frN : Fr} {SN : List AH} {g0 : G} {h0 : AH} {W0 : World} {listed : Array Bool} {a : Act} {W : World}

theorem step_alloc (hr0 : HRel g0 h0 W0) (hn : ((opsOf ds).map (·.1) ++ (alsOf ds ++ tail).map (·.1)).Nodup) (hdn : (dsts ds ++ adst tail).Nodup)
    (hds : chkDs P nt ops (opsOf ds) (dsts ds ++ adst tail) (effOf ds) 0 none [] ds = true) (hops : ∀ q ∈ opsOf ds, ∃ o, ops[q.1]? = some o)
    (I : Inv P call ops nt ds tail fr0 frN SN g0 h0 W0 listed a W) {al : Nat × Nat × List AV} (hal : al ∈ alsOf ds ++ tail) (hc : chkAl P nt ops al = true) {o' : Oper} (ho : ops[al.1]? = some o')
    (hready : ∀ e ∈ o'.after, Region.binds .any e = true → Lst listed e.on) (hun : ¬ Lst listed al.1) {Q : Exit → Act → World → Prop} :
    wpOp P ops Q al.1 (fun a' W' => Inv P call ops nt ds tail fr0 frN SN g0 h0 W0 (listed.setIfInBounds al.1 true) a' W') a W := by
  obtain ⟨hsize, hclosed, htm, hdf, g, H, pre, rem, B, e1, e2, e3, e4, e5, e6, e7, e7b, e8, e9⟩ := I
  have hi : al.1 < ops.size := Nat.lt_of_not_le fun hle => by simp [Array.getElem?_eq_none hle] at ho
  have hL : ∀ j, Lst (listed.setIfInBounds al.1 true) j ↔ j = al.1 ∨ Lst listed j := fun j => Lst_set (by rw [hsize]; exact hi)
  simp only [chkAl, ho, Bool.and_eq_true, decide_eq_true_eq, Option.isNone_iff_eq_none] at hc
  obtain ⟨⟨⟨c1, c2⟩, c3⟩, c4⟩ := hc
  split at c4
  · rename_i t hop
    have hnix : ((alsOf ds ++ tail).map (·.1)).Nodup := (List.nodup_append.1 hn).2.1
    have hndst : ((alsOf ds ++ tail).map (·.2.1)).Nodup := by
      have := hdn.sublist (List.Sublist.append (adst_sub ds) (List.Sublist.refl (adst tail)))
      simpa [adst] using this
    -- it belongs to an effect that has not come up
    have hpre : ∀ x ∈ alsOf pre, Lst listed x.1 := by
      have hsp : ∀ (l : List DOp) (x : Nat × Nat × List AV), x ∈ alsOf l → ∃ l1 als i o l2, l = l1 ++ .eff als i o :: l2 ∧ x ∈ als := by
        intro l
        induction l with
        | nil => intro x h; cases h
        | cons y l ih =>
          intro x h
          cases y with
          | val i w o => obtain ⟨l1, als, j, o', l2, h1, h2⟩ := ih x h; exact ⟨_ :: l1, als, j, o', l2, by rw [h1]; rfl, h2⟩
          | eff als i o =>
            simp only [alsOf, List.mem_append] at h
            rcases h with h | h
            · exact ⟨[], als, i, o, l, rfl, h⟩
            · obtain ⟨l1, als', j, o', l2, h1, h2⟩ := ih x h; exact ⟨_ :: l1, als', j, o', l2, by rw [h1]; rfl, h2⟩
      intro x hx
      obtain ⟨l1, als, i, o, l2, h1, h2⟩ := hsp pre x hx
      have h3 : ds = l1 ++ .eff als i o :: (l2 ++ rem) := by rw [e1, h1]; simp
      have hel := chk_split l1 0 none [] _ _ (by rw [← h3]; exact hds)
      simp only [chkEl, Bool.and_eq_true, List.all_eq_true] at hel
      have hiL : Lst listed i := e5 i (by rw [h1, effOf_append]; simp [effOf])
      obtain ⟨oi, hoi⟩ := hops (i, o) (by rw [h3, opsOf_append]; simp [opsOf])
      exact reach_closed hclosed (fun o2 ho2 => hclosed i o2 hiL ho2) (hel.1.1.1 x h2)
    have hrem : al ∈ alsOf rem ++ tail := by
      rw [e1, alsOf_append] at hal
      rcases List.mem_append.1 hal with h | h
      · rcases List.mem_append.1 h with h | h
        · exact absurd (hpre al h) hun
        · exact List.mem_append_left _ h
      · exact List.mem_append_right _ h
    have hall : ∀ {x : Nat × Nat × List AV}, x ∈ alsOf rem ++ tail → x ∈ alsOf ds ++ tail := fun h => by rw [e1]; exact als_sub h
    obtain ⟨c, r1, r2⟩ := run_alloc (P := P) (W := W) c4 (.tuple #[])
    obtain ⟨g2, s1, s2, s3, s4, s5, s6⟩ := reserve_sound e3 (.cells c t)
    have hw : Region.wanted o' (yielded ops a.tmps) = true := by simp [Region.wanted, c3]
    refine wanted_op ho hw ?_
    have hwp : ∀ next : Act → World → Prop, next (a.put o'.dst (.pointer (some ⟨W.heap.size, 0, none⟩))) (W.alloc (.cells c t)) → o'.wp P a W next Q := fun next hnx => by
      unfold Oper.wp
      have : execOp a.eval o' = (do pure (.value (← Instr.alloc t true (.tuple #[])))) := by simp only [execOp, hop]
      rw [this, Sem.run_bind, r1]
      exact hnx
    refine hwp _ ?_
    have hrs0 : ¬ g0.rs W.heap.size := fun h => by have := hr0.res _ h; have := e4.1.size; omega
    refine ⟨by simpa using hsize, fun j oj hj hoj e hm hb => ?_, by rw [size_put]; exact htm, by rw [defers_put]; exact hdf, g2, H, pre, rem, fun j => if j = al.1 then W.heap.size else B j, e1, e2, s4, e4.reserve hr0.res _ s1 s2 s3, fun j hj => (hL j).2 (.inr (e5 j hj)), fun j hj hl => ?_, fun u hu => ?_, fun u hu hna => ?_, fun x hx hl => ?_, fun x hx y hy hlx hly hne => ?_⟩
    · rcases (hL j).1 hj with rfl | hj
      · rw [ho] at hoj; simp at hoj; subst hoj
        exact (hL _).2 (.inr (hready e hm hb))
      · exact (hL _).2 (.inr (hclosed j oj hj hoj e hm hb))
    · rcases (hL j).1 hl with e | e
      · have hje : j ∈ effOf ds := by rw [e1, effOf_append]; exact List.mem_append_right _ hj
        have effsub : ∀ {l : List DOp} {j : Nat}, j ∈ effOf l → ∃ q ∈ opsOf l, q.1 = j := by
          intro l
          induction l with
          | nil => intro j h; cases h
          | cons y l ih =>
            intro j h
            cases y with
            | val i' w' o2 => obtain ⟨q, h1, h2⟩ := ih (by simpa [effOf] using h); exact ⟨q, by simp [opsOf, h1], h2⟩
            | eff als i' o2 =>
              simp only [effOf, List.mem_cons] at h
              rcases h with h | h
              · exact ⟨(i', o2), by simp [opsOf], h.symm⟩
              · obtain ⟨q, h1, h2⟩ := ih h; exact ⟨q, by simp [opsOf, h1], h2⟩
        obtain ⟨q, h1, h2⟩ := effsub hje
        exact al_ne hn h1 hal (h2.trans e)
      · exact e6 j hj e
    · have hd : o'.dst ≠ some u := fun hd => by
        rw [c1] at hd; simp at hd
        rcases hu with ⟨q, h1, h2, _⟩ | h
        · exact dst_ne hdn h1 hal (by rw [h2, hd])
        · obtain ⟨x, h1, h2⟩ := List.mem_map.1 h
          have hxs : x ∈ alsOf ds ++ tail := by rw [e1, alsOf_append]; simp [h1]
          have := map_inj hndst hxs hal (h2.trans hd.symm)
          exact hun (this ▸ hpre x h1)
      rw [getD_put_ne hd]
      refine (e7 u ?_).mono s5 s6
      rcases hu with ⟨q, h1, h2, h3⟩ | h
      · rcases (hL _).1 h3 with e | e
        · exact absurd e (al_ne hn h1 hal)
        · exact .inl ⟨q, h1, h2, e⟩
      · exact .inr h
    · have hd : o'.dst ≠ some u := fun hd => by
        rw [c1] at hd; simp at hd
        exact hna (List.mem_map.2 ⟨al, hal, hd⟩)
      rw [getD_put_ne hd]
      exact (e7b u (fun q h1 h2 h3 => hu q h1 h2 ((hL _).2 (.inr h3))) hna).mono s5 s6
    · rcases (hL _).1 hl with e | e
      · have hxe := map_inj hnix (hall hx) hal e
        subst hxe
        refine ⟨by rw [c1, getD_put_self (by rw [htm]; exact c2)]; simp, by simp [s3], by simpa using hrs0, c, t, ?_, r2⟩
        simp only [if_true]
        show (W.heap.push _)[W.heap.size]? = _
        simp
      · have hne : x.1 ≠ al.1 := fun h => hun (h ▸ e)
        obtain ⟨p1, p2, p3, c', t', p4, p5⟩ := e8 x hx e
        have hd : o'.dst ≠ some x.2.1 := fun hd => by
          rw [c1] at hd; simp at hd
          exact hne (by rw [map_inj hndst (hall hx) hal hd.symm])
        simp only [hne, if_false]
        refine ⟨by rw [getD_put_ne hd]; exact p1, (s3 _).2 (.inl p2), p3, c', t', ?_, p5⟩
        have hlt : B x.1 < W.heap.size := e3.res _ p2
        show (W.heap.push _)[B x.1]? = _
        rw [Array.getElem?_push]
        simp [Nat.ne_of_lt hlt, p4]
    · have hlt : ∀ z ∈ alsOf rem ++ tail, Lst listed z.1 → B z.1 < W.heap.size := fun z hz hl => e3.res _ (e8 z hz hl).2.1
      rcases (hL _).1 hlx with e | e
      · rcases (hL _).1 hly with e' | e'
        · exact absurd (e.trans e'.symm) hne
        · have h1 : y.1 ≠ al.1 := fun h => hun (h ▸ e')
          simp only [e, if_true, h1, if_false]
          have := hlt y hy e'; omega
      · have h1 : x.1 ≠ al.1 := fun h => hun (h ▸ e)
        rcases (hL _).1 hly with e' | e'
        · simp only [h1, if_false, e', if_true]
          have := hlt x hx e; omega
        · have h2 : y.1 ≠ al.1 := fun h => hun (h ▸ e')
          simp only [h1, h2, if_false]
          exact e9 x hx y hy e e' hne
  · cases c4

/-- without the blocks that were kept apart -/
theorem unreserve (hr : HRel g0 h0 W0) {rs : Nat → Prop} (hsub : ∀ b, rs b → g0.rs b) : HRel { g0 with rs := rs } h0 W0 ∧ Keeps W0 (U g0 h0) W0 (U { g0 with rs := rs } h0) ∧ GLe g0 { g0 with rs := rs } := by
  have hk : Keeps W0 (U g0 h0) W0 (U { g0 with rs := rs } h0) := fun b o v hu hc => ⟨⟨fun h => hu.1 (hsub b h), hu.2⟩, hc⟩
  have hgle : GLe g0 { g0 with rs := rs } := fun _ _ h => ⟨h, rfl⟩
  exact ⟨⟨hr.dom, fun id b hb => (hr.blk id b hb).mono hk hgle fun _ _ _ _ => rfl, hr.apart, hr.esc, fun b hb => hr.res b (hsub b hb), fun id b r x z h1 h2 h3 => hr.own id b r x z h1 h2 (hsub r h3), fun p hp => hk _ _ _ (hr.gl p hp).1 (hr.gl p hp).2⟩, hk, hgle⟩

end
end Go.Proofs.YtfahpmlckobpmaaGreatDoor.Pi
/-
  Regions in whatever order: the region's law.
-/
namespace Go.Proofs.YtfahpmlckobpmaaGreatDoor.Pi
open Go

section
variable {P : Program} {call : CallF} {ops : Array Oper} {nt : Nat} {ds : List DOp} {tail : Als} {fr0 frN : Fr} {CK : List Ck} {SN : List AH} {g0 : G} {h0 : AH} {W0 : World} {listed : Array Bool} {a : Act} {W : World}

theorem inv_end {hN : AH} (hfr : ∀ t, t ∉ dsts ds → fget frN t = fget fr0 t) (hdn : (dsts ds ++ adst tail).Nodup) (hix : ∀ q ∈ opsOf ds, q.1 < ops.size) (halx : ∀ al ∈ alsOf ds ++ tail, al.1 < ops.size) (hnix : ((alsOf ds ++ tail).map (·.1)).Nodup)
    (hSN : SN[(effOf ds).length]? = some hN) (hall : ∀ i, i < ops.size → Lst listed i) (I : Inv P call ops nt ds tail fr0 frN SN g0 h0 W0 listed a W) : Left g0 h0 W0 nt (alsRun tail frN hN).1 (alsRun tail frN hN).2 a W := by
  obtain ⟨hsize, hclosed, htm, hdf, g, H, pre, rem, B, e1, e2, e3, e4, e5, e6, e7, e7b, e8, e9⟩ := I
  have effsub : ∀ {l : List DOp} {j : Nat}, j ∈ effOf l → ∃ q ∈ opsOf l, q.1 = j := by
    intro l
    induction l with
    | nil => intro j h; cases h
    | cons y l ih =>
      intro j h
      cases y with
      | val i' w' o2 => obtain ⟨q, h1, h2⟩ := ih (by simpa [effOf] using h); exact ⟨q, by simp [opsOf, h1], h2⟩
      | eff als i' o2 =>
        simp only [effOf, List.mem_cons] at h
        rcases h with h | h
        · exact ⟨(i', o2), by simp [opsOf], h.symm⟩
        · obtain ⟨q, h1, h2⟩ := ih h; exact ⟨q, by simp [opsOf, h1], h2⟩
  have hrem : effOf rem = [] := by
    cases hz : effOf rem with
    | nil => rfl
    | cons z zs =>
      exfalso
      have hm : z ∈ effOf rem := by rw [hz]; simp
      obtain ⟨q, h1, h2⟩ := effsub hm
      have hq : q ∈ opsOf ds := by rw [e1, opsOf_append]; exact List.mem_append_right _ h1
      exact e6 z hm (h2 ▸ hall q.1 (hix q hq))
  have hals : alsOf rem = [] := by
    clear e1 e6 e8 e9
    induction rem with
    | nil => rfl
    | cons y r ih =>
      cases y with
      | val => exact ih (by simpa [effOf] using hrem)
      | eff => simp [effOf] at hrem
  have hH : H = hN := by
    rw [e1, effOf_append, hrem, List.append_nil, e2] at hSN
    simpa using hSN
  subst hH
  obtain ⟨a1, a2, a3⟩ := als_run tail frN H
  have hnt : (adst tail).Nodup := (List.nodup_append.1 hdn).2.1
  have htl : ∀ al ∈ tail, al ∈ alsOf rem ++ tail := fun al h => List.mem_append_right _ h
  have htL : ∀ al ∈ tail, Lst listed al.1 := fun al h => hall _ (halx al (List.mem_append_right _ h))
  have hntix : (tail.map (·.1)).Nodup := by rw [List.map_append] at hnix; exact (List.nodup_append.1 hnix).2.1
  obtain ⟨g3, b1, b2, b3, b4, b5, b6⟩ := adopt_all (g := g0) (h := h0) (W := W0) a.tmps (alsRun tail frN H).1 B tail e3 e4 hntix (fun al h => e8 al (htl al h) (htL al h)) (fun al h al' h' hne => e9 al (htl al h) al' (htl al' h') (htL al h) (htL al' h') hne) (a3 hnt)
  obtain ⟨c1, c2, c3⟩ := unreserve b1 (rs := g0.rs) b4.2.2
  refine ⟨htm, hdf, { g3 with rs := g0.rs }, by rw [a1]; exact c1, by rw [a1]; exact b4.1, fun t => ?_⟩
  rw [a1]
  by_cases ht : t ∈ adst tail
  · obtain ⟨al, h1, rfl⟩ := List.mem_map.1 ht
    exact (b6 al h1).mono c2 c3
  · rw [a2 t ht]
    have base : VRel g W (U g H) (fget frN t) (a.tmps.getD t undef) := by
      by_cases hd : t ∈ dsts ds
      · -- an operation's, or a variable's
        have split : ∀ (l : List DOp), t ∈ dsts l → (∃ q ∈ opsOf l, q.2.dst = some t) ∨ t ∈ adst (alsOf l) := by
          intro l
          induction l with
          | nil => intro h; cases h
          | cons y l ih =>
            intro h
            simp only [dsts, elDsts, List.mem_append] at h
            rcases h with (h | h) | h
            · cases y with
              | val => simp [elAls, adst] at h
              | eff als i o => exact .inr (by simp only [alsOf, adst, List.map_append, List.mem_append]; exact .inl h)
            · refine .inl ⟨(elIx y, elOper y), ?_, by simpa using h⟩
              cases y <;> simp [opsOf, elIx, elOper]
            · rcases ih h with ⟨q, h1, h2⟩ | h1
              · refine .inl ⟨q, ?_, h2⟩
                cases y <;> simp [opsOf, h1]
              · refine .inr ?_
                cases y with
                | val => exact h1
                | eff als i o => simp only [alsOf, adst, List.map_append, List.mem_append]; exact .inr h1
        rcases split ds hd with ⟨q, h1, h2⟩ | h1
        · exact e7 t (.inl ⟨q, h1, h2, hall _ (hix q h1)⟩)
        · rw [e1, alsOf_append, hals, List.append_nil] at h1
          exact e7 t (.inr h1)
      · rw [hfr t hd]
        refine e7b t (fun q h1 h2 => absurd (dsts_ops h1 h2) hd) fun hm => ?_
        simp only [adst, List.map_append, List.mem_append] at hm
        rcases hm with hm | hm
        · obtain ⟨al, h3, rfl⟩ := List.mem_map.1 hm
          exact hd (dsts_als h3)
        · exact ht hm
    exact (base.mono b2 b3).mono c2 c3

theorem regd_sound {call : CallF} (hcall : CallS P call) {id : Nat} {Q : Exit → Act → World → Prop} (hc : chkRegd P nt ds tail ops = true) {fr : Fr} {g : G} {h : AH} {fr' : Fr} {h' : AH}
    (hr : HRel g h W) (r : FRel g h W fr a.tmps) (hs : a.tmps.size = nt) (hd : a.defers = []) (hx : regdRun call ds tail fr h = some (fr', h')) (hQ : ∀ a' W', Left g h W nt fr' h' a' W' → Q .normal a' W') :
    (Code.region id ops true).wp P Q a W := by
  simp only [chkRegd, Bool.and_eq_true, List.all_eq_true, List.mem_range, List.contains_iff_mem] at hc
  obtain ⟨⟨⟨⟨⟨⟨hm, hn⟩, hall⟩, hdn⟩, hals⟩, hedge⟩, hds⟩ := hc
  have hn := nodupB_iff hn
  have hdn := nodupB_iff hdn
  simp only [regdRun] at hx
  obtain ⟨⟨frN, hN, SN, CK⟩, x1, x2⟩ := bind_some_iff.1 hx
  simp only at x2
  split at x2
  · rename_i hwin
    simp only [Option.some.injEq] at x2
    have hdn1 : (dsts ds).Nodup := (List.nodup_append.1 hdn).1
    obtain ⟨t1, t2, ⟨T, t3⟩, _, t4⟩ := trace ds fr h [] [] frN hN SN CK (by simpa using x1) hdn1
    simp only [List.length_nil, Nat.zero_add] at t2 t4
    have hopsix : ∀ q ∈ opsOf ds, ∃ o, ops[q.1]? = some o := fun q hq => by
      obtain ⟨l1, x, l2, h1, h2, h3⟩ := mem_opsOf hq
      have hel := chk_split l1 0 none [] x l2 (by rw [← h1]; exact hds)
      rw [← h2]
      cases x with
      | val ix w o =>
        simp only [chkEl, Bool.and_eq_true] at hel
        have := hel.2
        split at this
        · rename_i o' ho; exact ⟨o', ho⟩
        · cases this
      | eff als ix o =>
        simp only [chkEl, Bool.and_eq_true] at hel
        have := hel.2
        split at this
        · rename_i o' ho; exact ⟨o', ho⟩
        · cases this
    have hix : ∀ q ∈ opsOf ds, q.1 < ops.size := fun q hq => by
      obtain ⟨o, ho⟩ := hopsix q hq
      exact Nat.lt_of_not_le fun hle => by simp [Array.getElem?_eq_none hle] at ho
    have halx : ∀ al ∈ alsOf ds ++ tail, al.1 < ops.size := fun al hal => by
      have := hals al hal
      unfold chkAl at this
      split at this
      · rename_i o ho; exact Nat.lt_of_not_le fun hle => by simp [Array.getElem?_eq_none hle] at ho
      · cases this
    have hnix : ((alsOf ds ++ tail).map (·.1)).Nodup := (List.nodup_append.1 hn).2.1
    -- the beginning
    obtain ⟨hr1, hext1⟩ := more_sound hr (More.refl W).drew
    have r1 : FRel g h W.drew fr a.tmps := r.ext hext1
    have hnoL : ∀ i, ¬ Lst (Array.replicate ops.size false) i := fun i => by
      unfold Lst
      rw [Array.getD_eq_getD_getElem?]
      by_cases hi : i < ops.size
      · simp [hi]
      · simp [hi]
    have I0 : Inv P call ops nt ds tail fr frN SN g h W.drew (Array.replicate ops.size false) a W.drew := by
      refine ⟨by simp, fun i o hl => absurd hl (hnoL i), hs, hd, g, h, [], ds, fun _ => 0, rfl, by rw [t3]; simp [effOf], hr1, ExtR.refl, fun i hi => (by cases hi), fun i _ => hnoL i, fun t ht => ?_, fun t _ _ => r1 t, fun al _ hl => absurd hl (hnoL _), fun al _ al' _ hl => absurd hl (hnoL _)⟩
      rcases ht with ⟨q, _, _, hl⟩ | ht
      · exact absurd hl (hnoL _)
      · simp [alsOf, adst] at ht
    refine wp_region_any hm ?_
    have main : ∀ (fuel : Nat) (listed : Array Bool) (a : Act) (W' : World), Inv P call ops nt ds tail fr frN SN g h W.drew listed a W' → ((List.range ops.size).filter fun i => !listed.getD i false).length ≤ fuel → wpAny P .any ops Q fuel listed a W' := by
      intro fuel
      -- all have come up
      have ends : ∀ (listed : Array Bool) (a : Act) (W' : World), Inv P call ops nt ds tail fr frN SN g h W.drew listed a W' → (∀ i, i < ops.size → Lst listed i) → Q .normal a W' := fun listed a W' I hl => by
        obtain ⟨q1, q2, g', q3, q4, q5⟩ := inv_end t1 hdn hix halx hnix t2 hl I
        rw [x2] at q3 q4 q5
        exact hQ a W' ⟨q1, q2, g', q3, hext1.trans q4, q5⟩
      have readyAll : ∀ (listed : Array Bool), listed.size = ops.size → Region.ready .any ops listed = [] → ∀ i, i < ops.size → Lst listed i := fun listed hsz he i => by
        induction i using Nat.strongRecOn with
        | _ i ih =>
          intro hi
          refine Classical.byContradiction fun hno => ?_
          have : i ∈ Region.ready .any ops listed := by
            refine mem_ready.2 ⟨?_, ops[i], by simp [hi], fun e hm hb => ?_⟩
            · unfold Lst at hno
              have : i < listed.size := by omega
              simp only [Array.getD_eq_getD_getElem?, this, Array.getElem?_eq_getElem, Option.getD_some] at hno ⊢
              simpa using hno
            · have := hedge i hi
              simp only [Array.getElem?_eq_getElem hi, List.all_eq_true, Bool.or_eq_true, Bool.not_eq_true', decide_eq_true_eq] at this
              have hlt := (this e (by simpa using hm)).resolve_left (by rw [hb]; simp)
              exact ih e.on hlt (by omega)
          rw [he] at this; cases this
      induction fuel with
      | zero =>
        intro listed a W' I hf
        have hl : ∀ i, i < ops.size → Lst listed i := fun i hi => by
          refine Classical.byContradiction fun hno => ?_
          have hm : i ∈ (List.range ops.size).filter fun i => !listed.getD i false := List.mem_filter.2 ⟨List.mem_range.2 hi, by unfold Lst at hno; simpa using hno⟩
          have := List.length_pos_of_mem hm
          omega
        refine ⟨?_, ends listed a W' I hl⟩
        apply List.eq_nil_iff_forall_not_mem.2
        intro i hm
        obtain ⟨h1, o, ho, _⟩ := mem_ready.1 hm
        have hi : i < ops.size := Nat.lt_of_not_le fun hle => by simp [Array.getElem?_eq_none hle] at ho
        have h2 := hl i hi
        unfold Lst at h2
        have : i < listed.size := by rw [I.size]; exact hi
        simp only [Array.getD_eq_getD_getElem?, this, Array.getElem?_eq_getElem, Option.getD_some] at h1 h2
        rw [h1] at h2; cases h2
      | succ fuel ih =>
        intro listed a W' I hf
        refine ⟨fun he => ends listed a W' I (readyAll listed I.size he), fun i hm => ?_⟩
        obtain ⟨h1, o', ho, hrd⟩ := mem_ready.1 hm
        have hi : i < ops.size := Nat.lt_of_not_le fun hle => by simp [Array.getElem?_eq_none hle] at ho
        have hil : i < listed.size := by rw [I.size]; exact hi
        have hun : ¬ Lst listed i := by
          unfold Lst
          simp only [Array.getD_eq_getD_getElem?, hil, Array.getElem?_eq_getElem, Option.getD_some] at h1 ⊢
          simp [h1]
        have hready : ∀ e ∈ o'.after, Region.binds .any e = true → Lst listed e.on := hrd
        have step : wpOp P ops Q i (fun a' W'' => Inv P call ops nt ds tail fr frN SN g h W.drew (listed.setIfInBounds i true) a' W'') a W' := by
          have hmem := hall i hi
          rcases List.mem_append.1 hmem with hm | hm
          · obtain ⟨q, hq, rfl⟩ := List.mem_map.1 hm
            obtain ⟨l1, x, l2, s1, s2, s3⟩ := mem_opsOf hq
            cases x with
            | val ix w o => simp only [elIx] at s2; subst s2; exact step_val hcall hn hdn hds t4 t1 hwin I s1 ho hready hun
            | eff als ix o => simp only [elIx] at s2; subst s2; exact step_eff hcall hn hdn hds t4 t1 I s1 ho hready hun
          · obtain ⟨al, hal, rfl⟩ := List.mem_map.1 hm
            exact step_alloc hr1 hn hdn hds hopsix I hal (hals al hal) ho hready hun
        refine wpOp_mono (fun a' W'' I' => ih _ a' W'' I' ?_) step
        have hlt := filter_lt (p := fun j => !listed.getD j false) (i := i) (by unfold Lst at hun; simpa using hun) (List.mem_range.2 hi)
        have heq : ((List.range ops.size).filter fun j => !(listed.setIfInBounds i true).getD j false) = (List.range ops.size).filter fun j => !listed.getD j false && (j != i) := by
          refine List.filter_congr fun j _ => ?_
          by_cases hji : i = j
          · subst hji; simp [hil]
          · simp [Array.getElem?_setIfInBounds_ne hji, Ne.symm hji]
        rw [heq]
        omega
    refine main ops.size _ a W.drew I0 ?_
    exact Nat.le_trans (List.length_filter_le _ _) (by simp)
  · cases x2

end
end Go.Proofs.YtfahpmlckobpmaaGreatDoor.Pi
/-
  Code.
-/
namespace Go.Proofs.YtfahpmlckobpmaaGreatDoor.Pi
open Go

def exOf : Ex → Exit
  | .norm => .normal
  | .exit id => .exit id
  | .ret => .ret

def chkCode (P : Program) (nt : Nat) : AC → Code → Bool
  | .skip, .skip => true
  | .ret, .ret => true
  | .exit i, .exit j => i == j
  | .reg xs _, .region _ ops false => chkReg P nt xs ops
  | .regd ds tail _, .region _ ops true => chkRegd P nt ds tail ops
  | .seq a b, .seq x y => chkCode P nt a x && chkCode P nt b y
  | .cond c t e, .cond d x y => chkOpd c d && chkCode P nt t x && chkCode P nt e y
  | .block i b, .block j c => (i == j) && chkCode P nt b c
  | .loop b _, .loop c => chkCode P nt b c
  | _, _ => false

theorem Left.trans {g : G} {h : AH} {W : World} {nt : Nat} {g1 : G} {h1 : AH} {W1 : World} {fr' : Fr} {h' : AH} {a' : Act} {W' : World} (e : Ext g h W g1 h1 W1) (l : Left g1 h1 W1 nt fr' h' a' W') : Left g h W nt fr' h' a' W' := by
  obtain ⟨q1, q2, g', q3, q4, q5⟩ := l
  exact ⟨q1, q2, g', q3, e.trans q4, q5⟩

/-- a code's law -/
def CodeS (P : Program) (nt : Nat) (c : Code) (f : CodeF) : Prop :=
  ∀ (fr : Fr) (g : G) (h : AH) (W : World) (a : Act) (e : Ex) (fr' : Fr) (h' : AH), HRel g h W → FRel g h W fr a.tmps → a.tmps.size = nt → a.defers = [] → f fr h = some (e, fr', h') →
    ∀ (Q : Exit → Act → World → Prop), (∀ a' W', Left g h W nt fr' h' a' W' → Q (exOf e) a' W') → c.wp P Q a W

theorem loop_sound {P : Program} {nt : Nat} {c : Code} {f : CodeF} (hf : CodeS P nt c f) (keep : List Nat) : ∀ (m : Nat) (fr : Fr) (g : G) (h : AH) (W : World) (a : Act) (e : Ex) (fr' : Fr) (h' : AH), HRel g h W → FRel g h W fr a.tmps → a.tmps.size = nt → a.defers = [] →
    loopN f keep m fr h = some (e, fr', h') → ∀ (Q : Exit → Act → World → Prop), (∀ a' W', Left g h W nt fr' h' a' W' → Q (exOf e) a' W') → Code.rounds P c Q m a W
  | 0, _, _, _, _, _, _, _, _, _, _, _, _, hx, _, _ => by simp [loopN] at hx
  | m + 1, fr, g, h, W, a, e, fr', h', hr, r, hs, hd, hx, Q, hQ => by
    simp only [loopN] at hx
    obtain ⟨⟨e1, fr1, h1⟩, x1, x2⟩ := bind_some_iff.1 hx
    simp only at x2
    rw [rounds_succ]
    refine hf (keepFr keep fr) g h W a e1 fr1 h1 hr (r.keep keep) hs hd x1 _ fun a1 W1 hl => ?_
    split at x2
    · rename_i he; subst he
      obtain ⟨q1, q2, g1, q3, q4, q5⟩ := hl
      exact loop_sound hf keep m fr1 g1 h1 W1 a1 e fr' h' q3 q5 q1 q2 x2 Q fun a' W' hl' => hQ a' W' (hl'.trans q4)
    · rename_i he
      simp only [Option.some.injEq, Prod.mk.injEq] at x2
      obtain ⟨rfl, rfl, rfl⟩ := x2
      have := hQ a1 W1 hl
      cases e1 with
      | norm => exact absurd rfl he
      | exit id => exact this
      | ret => exact this

theorem code_sound {P : Program} {call : CallF} (hcall : CallS P call) {nt n : Nat} : ∀ (x : AC) (c : Code), chkCode P nt x c = true → CodeS P nt c (codeRun call n x) := by
  intro x
  induction x with
  | skip =>
    intro c hc fr g h W a e fr' h' hr r hs hd hx Q hQ
    cases c <;> first | (simp [chkCode] at hc; done) | skip
    simp [codeRun] at hx; obtain ⟨rfl, rfl, rfl⟩ := hx
    exact wp_skip (hQ a W ⟨hs, hd, g, hr, Ext.refl _ _ _, r⟩)
  | ret =>
    intro c hc fr g h W a e fr' h' hr r hs hd hx Q hQ
    cases c <;> first | (simp [chkCode] at hc; done) | skip
    simp [codeRun] at hx; obtain ⟨rfl, rfl, rfl⟩ := hx
    exact wp_ret (hQ a W ⟨hs, hd, g, hr, Ext.refl _ _ _, r⟩)
  | exit i =>
    intro c hc fr g h W a e fr' h' hr r hs hd hx Q hQ
    cases c <;> first | (simp [chkCode] at hc; done) | skip
    simp [chkCode] at hc; subst hc
    simp [codeRun] at hx; obtain ⟨rfl, rfl, rfl⟩ := hx
    exact wp_exit (hQ a W ⟨hs, hd, g, hr, Ext.refl _ _ _, r⟩)
  | reg xs keep =>
    intro c hc fr g h W a e fr' h' hr r hs hd hx Q hQ
    cases c <;> first | (simp [chkCode] at hc; done) | skip
    rename_i id ops dr
    cases dr with
    | true => simp [chkCode] at hc
    | false =>
      simp only [chkCode] at hc
      simp only [codeRun] at hx
      obtain ⟨⟨fr1, h1⟩, x1, x2⟩ := bind_some_iff.1 hx
      simp at x2; obtain ⟨rfl, rfl, rfl⟩ := x2
      refine reg_sound hcall hc hr r hs hd x1 fun a' W' hl => hQ a' W' ?_
      obtain ⟨q1, q2, g', q3, q4, q5⟩ := hl
      exact ⟨q1, q2, g', q3, q4, q5.keep keep⟩
  | regd ds tail keep =>
    intro c hc fr g h W a e fr' h' hr r hs hd hx Q hQ
    cases c <;> first | (simp [chkCode] at hc; done) | skip
    rename_i id ops dr
    cases dr with
    | false => simp [chkCode] at hc
    | true =>
      simp only [chkCode] at hc
      simp only [codeRun] at hx
      obtain ⟨⟨fr1, h1⟩, x1, x2⟩ := bind_some_iff.1 hx
      simp at x2; obtain ⟨rfl, rfl, rfl⟩ := x2
      refine regd_sound hcall hc hr r hs hd x1 fun a' W' hl => hQ a' W' ?_
      obtain ⟨q1, q2, g', q3, q4, q5⟩ := hl
      exact ⟨q1, q2, g', q3, q4, q5.keep keep⟩
  | seq x y ihx ihy =>
    intro c hc fr g h W a e fr' h' hr r hs hd hx Q hQ
    cases c <;> first | (simp [chkCode] at hc; done) | skip
    rename_i u v
    simp only [chkCode, Bool.and_eq_true] at hc
    simp only [codeRun] at hx
    obtain ⟨⟨e1, fr1, h1⟩, x1, x2⟩ := bind_some_iff.1 hx
    simp only at x2
    refine wp_seq (ihx u hc.1 fr g h W a e1 fr1 h1 hr r hs hd x1 _ fun a1 W1 hl => ?_)
    split at x2
    · rename_i he; subst he
      obtain ⟨q1, q2, g1, q3, q4, q5⟩ := hl
      exact ihy v hc.2 fr1 g1 h1 W1 a1 e fr' h' q3 q5 q1 q2 x2 Q fun a' W' hl' => hQ a' W' (hl'.trans q4)
    · rename_i he
      simp only [Option.some.injEq, Prod.mk.injEq] at x2
      obtain ⟨rfl, rfl, rfl⟩ := x2
      have := hQ a1 W1 hl
      cases e1 with
      | norm => exact absurd rfl he
      | exit id => exact this
      | ret => exact this
  | cond cc t f iht ihf =>
    intro c hc fr g h W a e fr' h' hr r hs hd hx Q hQ
    cases c <;> first | (simp [chkCode] at hc; done) | skip
    rename_i d u v
    simp only [chkCode, Bool.and_eq_true] at hc
    simp only [codeRun] at hx
    split at hx
    · rename_i b hb
      have hv := chkOpd_rel r hc.1.1
      rw [hb] at hv
      refine wp_cond (inv_bool hv) ?_
      cases b with
      | true => simp only [if_true] at hx ⊢; exact iht u hc.1.2 fr g h W a e fr' h' hr r hs hd hx Q hQ
      | false => simp only [Bool.false_eq_true, if_false] at hx ⊢; exact ihf v hc.2 fr g h W a e fr' h' hr r hs hd hx Q hQ
    · cases hx
  | block i b ih =>
    intro c hc fr g h W a e fr' h' hr r hs hd hx Q hQ
    cases c <;> first | (simp [chkCode] at hc; done) | skip
    rename_i j u
    simp only [chkCode, Bool.and_eq_true, beq_iff_eq] at hc
    obtain ⟨rfl, hc⟩ := hc
    simp only [codeRun] at hx
    obtain ⟨⟨e1, fr1, h1⟩, x1, x2⟩ := bind_some_iff.1 hx
    simp only at x2
    refine wp_block (ih u hc fr g h W a e1 fr1 h1 hr r hs hd x1 _ fun a1 W1 hl => ?_)
    split at x2
    · rename_i he; subst he
      simp only [Option.some.injEq, Prod.mk.injEq] at x2
      obtain ⟨rfl, rfl, rfl⟩ := x2
      simp only [exOf, Exit.inBlock, if_true]
      exact hQ a1 W1 hl
    · rename_i he
      simp only [Option.some.injEq, Prod.mk.injEq] at x2
      obtain ⟨rfl, rfl, rfl⟩ := x2
      have := hQ a1 W1 hl
      cases e1 with
      | norm => exact this
      | exit id =>
        have hne : id ≠ i := fun e => he (by rw [e])
        simp only [exOf, Exit.inBlock, hne, if_false]
        exact this
      | ret => exact this
  | loop b keep ih =>
    intro c hc fr g h W a e fr' h' hr r hs hd hx Q hQ
    cases c <;> first | (simp [chkCode] at hc; done) | skip
    rename_i u
    simp only [chkCode] at hc
    simp only [codeRun] at hx
    exact wp_loop_rounds n (loop_sound (ih u hc) keep n fr g h W a e fr' h' hr r hs hd hx Q hQ)

end Go.Proofs.YtfahpmlckobpmaaGreatDoor.Pi
/-
  What a call tells and leaves.
-/
namespace Go.Proofs.YtfahpmlckobpmaaGreatDoor.Pi
open Go

section
variable {P : Program} {g : G} {h : AH} {W : World}

abbrev F2V (g : G) (W : World) (V : Nat → Nat → Prop) : List AV → List Value → Prop := F2 (VRel g W V)

theorem F2.ext {g' : G} {h' : AH} {W' : World} (e : Ext g h W g' h' W') {vs : List AV} {xs : List Value} (r : F2V g W (U g h) vs xs) : F2V g' W' (U g' h') vs xs := r.imp fun _ _ q => q.ext e

def chkRes (P : Program) : RV → ResultVar → Bool
  | .t i, .tmp j => i == j
  | .c i agg s, .cell a t => (i == a) && aggOK P t agg && sizeOK P t s
  | _, _ => false

/-- one of the model's results -/
def resOne (tmps : Array Value) : ResultVar → Sem Value
  | .tmp t => pure (tmps.getD t undef)
  | .cell a t => do loadVar t (← asAddr (tmps.getD a undef))

theorem results_eq (fn : Func) (tmps : Array Value) : Go.results fn tmps = (do
    let vs ← fn.results.mapM (resOne tmps)
    pure (if h : vs.size = 1 then vs[0] else .tuple vs)) := by
  unfold Go.results
  congr 1

theorem results_sound (hr : HRel g h W) {fr : Fr} {tmps : Array Value} (r : FRel g h W fr tmps) : ∀ {rvs : List RV} {rs : List ResultVar} {vs : List AV}, rvs.length = rs.length → ((rvs.zip rs).all fun p => chkRes P p.1 p.2) = true → results fr h rvs = some vs →
    ∃ xs : List Value, (rs.mapM (resOne tmps)).run P W = .ok xs W ∧ F2V g W (U g h) vs xs
  | [], [], vs, _, _, hv => by simp [results] at hv; subst hv; exact ⟨[], by simp, .nil⟩
  | [], _ :: _, _, hl, _, _ => by simp at hl
  | _ :: _, [], _, hl, _, _ => by simp at hl
  | .t i :: rvs, q :: rs, vs, hl, hc, hv => by
    simp only [List.zip_cons_cons, List.all_cons, Bool.and_eq_true] at hc
    cases q with
    | cell a t => simp [chkRes] at hc
    | tmp j =>
      simp only [chkRes, beq_iff_eq] at hc
      obtain ⟨rfl, hc⟩ := hc
      simp only [results] at hv
      cases h1 : results fr h rvs with
      | none => simp [h1] at hv
      | some us =>
        simp [h1] at hv; subst hv
        obtain ⟨xs, h2, h3⟩ := results_sound hr r (by simpa using hl) hc h1
        refine ⟨tmps.getD i undef :: xs, ?_, .cons (r i) h3⟩
        rw [List.mapM_cons]
        simp only [Sem.run_bind, resOne, Sem.run_pure, Result.andThen_ok, h2]
  | .c i agg s :: rvs, q :: rs, vs, hl, hc, hv => by
    simp only [List.zip_cons_cons, List.all_cons, Bool.and_eq_true] at hc
    cases q with
    | tmp j => simp [chkRes] at hc
    | cell a t =>
      simp only [chkRes, Bool.and_eq_true, beq_iff_eq] at hc
      obtain ⟨⟨⟨rfl, ha⟩, hs⟩, hc⟩ := hc
      simp only [results] at hv
      split at hv
      · rename_i id row off he
        split at hv
        · rename_i z rws hg
          obtain ⟨cs, h1, h2⟩ := bind_some_iff.1 hv
          obtain ⟨v, h3, h4⟩ := bind_some_iff.1 h2
          cases h5 : results fr h rvs with
          | none => simp [h5] at h4
          | some us =>
            simp [h5] at h4; subst h4
            obtain ⟨xs, h6, h7⟩ := results_sound hr r (by simpa using hl) hc h5
            have hp := r i
            rw [he] at hp
            obtain ⟨b, x, z', hm, hval⟩ := inv_ptr hp
            obtain ⟨b2, x2, hm2, hlay⟩ := lay_row hr hg h1
            rw [hm] at hm2; simp at hm2; obtain ⟨rfl, rfl, rfl⟩ := hm2
            obtain ⟨y, h8, h9⟩ := load_lay (P := P) (hlay.drop off) ha hs h3
            refine ⟨y :: xs, ?_, .cons h9 h7⟩
            rw [List.mapM_cons]
            have hadr : (asAddr (tmps.getD i undef)).run P W = .ok ⟨b, x + row * z' + off, none⟩ W := by rw [hval]; rfl
            simp only [Sem.run_bind, resOne, hadr, Result.andThen_ok, h8, h6, Sem.run_pure]
        · cases hv
      · cases hv

theorem asResult_rel {V : Nat → Nat → Prop} {vs : List AV} {xs : List Value} (hf : F2V g W V vs xs) : VRel g W V (asResult vs) (if h : xs.toArray.size = 1 then xs.toArray[0] else .tuple xs.toArray) := by
  have len : ∀ {vs : List AV} {xs : List Value}, F2V g W V vs xs → vs.length = xs.length := fun hf => by induction hf with | nil => rfl | cons _ _ ih => simp [ih]
  have get : ∀ {vs : List AV} {xs : List Value}, F2V g W V vs xs → ∀ (i : Nat) (av : AV) (v : Value), vs[i]? = some av → xs[i]? = some v → VRel g W V av v := fun hf => by
    induction hf with
    | nil => intro i av v h; simp at h
    | cons h _ ih =>
      intro i av v h1 h2
      cases i with
      | zero => simp at h1 h2; subst h1; subst h2; exact h
      | succ i => exact ih i av v (by simpa using h1) (by simpa using h2)
  have tup : VRel g W V (.tup vs) (.tuple xs.toArray) := .tup _ _ (by simpa using len hf) fun i av v h1 h2 => get hf i av v h1 (by simpa using h2)
  match vs, xs, hf, tup with
  | [], [], _, tup => exact tup
  | [v], [x], .cons h _, _ => exact h
  | v :: u :: vs, x :: y :: xs, _, tup => simpa [asResult] using tup
  | [], _ :: _, hf, _ => cases hf
  | [_], [], hf, _ => cases hf
  | [_], _ :: _ :: _, hf, _ => cases hf with | cons _ h => cases h
  | _ :: _ :: _, [], hf, _ => cases hf
  | _ :: _ :: _, [_], hf, _ => cases hf with | cons _ h => cases h

/-! ### told by value -/
theorem frzCell_sound (hr : HRel g h W) {n : Nat} {v v' : AV} {x : Value} {h' : AH} (hv : VRel g W (U g h) v x) (hf : frzCell n v h = some (v', h')) :
    HRel g h' W ∧ Ext g h W g h' W ∧ VRel g W (U g h') v' x ∧ (v.isCell = true → v'.isCell = true) := by
  cases v with
  | ms id s l =>
    simp only [frzCell] at hf
    split at hf
    · simp at hf; obtain ⟨rfl, rfl⟩ := hf; exact ⟨hr, Ext.refl _ _ _, hv, fun h => h⟩
    · split at hf
      · rename_i z rs hg
        split at hf
        · rename_i hle
          split at hf
          · rename_i hp
            simp only [Option.some.injEq, Prod.mk.injEq] at hf; obtain ⟨rfl, rfl⟩ := hf
            obtain ⟨hr', he⟩ := drop_sound hr id
            refine ⟨hr', he, .pure _ _ ?_, fun _ => rfl⟩
            obtain ⟨r, x0, zz, cap, a, hm, hcap, rfl, ha⟩ := inv_ms hv
            obtain ⟨r2, x2, c, t, hm2, hh, _, hrel⟩ := hr.blk id _ hg
            rw [hm] at hm2; simp at hm2; obtain ⟨rfl, rfl, rfl⟩ := hm2
            have hlen : (((rs.drop s).take l).map stripL).length = l := by simp; omega
            have hl : l = (((rs.drop s).take l).map stripL).length := hlen.symm
            rcases ha with ⟨rfl, _⟩ | ⟨h1, h2⟩
            · have hrow : ∀ i c, (((rs.drop s).take l).map stripL)[i]? = some c → ∃ q, rs[s + i]? = some q ∧ c = stripL q := fun i c hi => by
                obtain ⟨q, h1, h2⟩ := get_stripL hi
                have hi' : i < l := by have := (List.getElem?_eq_some_iff.1 h1).1; simp at this; omega
                rw [List.getElem?_take_of_lt hi', List.getElem?_drop] at h1
                exact ⟨q, h1, h2⟩
              have key := mk_pvs (W := W) (V := U g (h.drop id)) (e := ((rs.drop s).take l).map stripL) (b := r) (off := x0 + s * zz) (z := zz) (cap := cap) (by rw [hlen]; exact hcap) (fun e hm => by
                obtain ⟨i, hi⟩ := List.mem_iff_getElem?.1 hm
                obtain ⟨q, h1, rfl⟩ := hrow i e hi
                simpa [stripL] using (hrel _ q h1).1.1) (fun i c' j av hi hj => by
                obtain ⟨q, h1, rfl⟩ := hrow i c' hi
                simp only [stripL, List.getElem?_map] at hj
                cases hq : q[j]? with
                | none => simp [hq] at hj
                | some w =>
                  simp [hq] at hj; subst hj
                  obtain ⟨y, h2, h3⟩ := (hrel _ q h1).2 j w hq
                  have hpu : (w.strip).pure = true := pureL_get (List.all_eq_true.1 hp (stripL q) (List.mem_of_getElem? hi)) (i := j) (by simp [stripL, hq])
                  refine ⟨y, ⟨hr.own id _ r x0 zz hg hm, fun i' bi hi' hob => ?_⟩, ?_, ((h3.ext he).strip).toP hpu⟩
                  · rw [get_drop] at hi'
                    split at hi'
                    · cases hi'
                    · rename_i hne
                      obtain ⟨r3, x3, z3, h4, h5, _⟩ := hob
                      exact hr.apart i' id bi _ r3 x3 z3 r x0 zz hne hi' hg h4 hm h5.symm
                  · have e1 : x0 + s * zz + i * zz + j = x0 + (s + i) * zz + j := by rw [Nat.add_mul]; omega
                    rw [e1]
                    simp [World.cell?, hh, h2])
              rw [hlen] at key
              exact key
            · subst h1; subst h2
              have : ((rs.drop s).take 0).map stripL = [] := by simp
              rw [this]
              exact .vs0 _ _
          · cases hf
        · cases hf
      · cases hf
  | vs e t =>
    simp [frzCell] at hf; obtain ⟨rfl, rfl⟩ := hf
    exact ⟨hr, Ext.refl _ _ _, .pure _ _ (inv_vs hv), fun h => h⟩
  | _ => simp [frzCell] at hf; obtain ⟨rfl, rfl⟩ := hf; exact ⟨hr, Ext.refl _ _ _, hv, fun h => h⟩

theorem frzCells_sound {n : Nat} : ∀ {cs cs' : List AV} {xs : List Value} {h h' : AH}, HRel g h W → F2V g W (U g h) cs xs → frzCells n cs h = some (cs', h') →
    HRel g h' W ∧ Ext g h W g h' W ∧ F2V g W (U g h') cs' xs ∧ ((∀ av ∈ cs, av.isCell = true) → ∀ av ∈ cs', av.isCell = true)
  | [], cs', xs, h, h', hr, hf, hz => by simp [frzCells] at hz; obtain ⟨rfl, rfl⟩ := hz; cases hf; exact ⟨hr, Ext.refl _ _ _, .nil, fun h => h⟩
  | c :: cs, cs', xs, h, h', hr, hf, hz => by
    simp only [frzCells] at hz
    obtain ⟨⟨c1, h1⟩, z1, z2⟩ := bind_some_iff.1 hz
    cases hy : frzCells n cs h1 with
    | none => simp [hy] at z2
    | some y =>
      obtain ⟨cs2, h2⟩ := y
      simp [hy] at z2; obtain ⟨rfl, rfl⟩ := z2
      cases hf with
      | cons hv hs =>
        obtain ⟨a1, a2, a3, a4⟩ := frzCell_sound hr hv z1
        obtain ⟨b1, b2, b3, b4⟩ := frzCells_sound a1 (F2.ext a2 hs) hy
        refine ⟨b1, a2.trans b2, .cons (a3.ext b2) b3, fun hc av hm => ?_⟩
        rcases List.mem_cons.1 hm with rfl | hm
        · exact a4 (hc c (by simp))
        · exact b4 (fun av hm => hc av (by simp [hm])) av hm

theorem F2_of {V : Nat → Nat → Prop} : ∀ {a : List AV} {x : List Value}, a.length = x.length → (∀ (i : Nat) (av : AV) (v : Value), a[i]? = some av → x[i]? = some v → VRel g W V av v) → F2V g W V a x
  | [], [], _, _ => .nil
  | [], _ :: _, h, _ => by simp at h
  | _ :: _, [], h, _ => by simp at h
  | a :: l, x :: m, h, hr => .cons (hr 0 a x rfl rfl) (F2_of (by simpa using h) fun i av v h1 h2 => hr (i + 1) av v (by simpa using h1) (by simpa using h2))

theorem of_F2 {V : Nat → Nat → Prop} {a : List AV} {x : List Value} (hf : F2V g W V a x) : a.length = x.length ∧ ∀ (i : Nat) (av : AV) (v : Value), a[i]? = some av → x[i]? = some v → VRel g W V av v := by
  induction hf with
  | nil => exact ⟨rfl, fun i av v h => by simp at h⟩
  | cons h _ ih =>
    refine ⟨by simp [ih.1], fun i av v h1 h2 => ?_⟩
    cases i with
    | zero => simp at h1 h2; subst h1; subst h2; exact h
    | succ i => exact ih.2 i av v (by simpa using h1) (by simpa using h2)

theorem frzVal_sound (hr : HRel g h W) {n : Nat} {v v' : AV} {x : Value} {h' : AH} (hv : VRel g W (U g h) v x) (hf : frzVal n v h = some (v', h')) : HRel g h' W ∧ Ext g h W g h' W ∧ VRel g W (U g h') v' x := by
  unfold frzVal at hf
  split at hf
  · rename_i cs
    cases hy : frzCells n cs h with
    | none => simp [hy] at hf
    | some y =>
      obtain ⟨cs2, h2⟩ := y
      simp [hy] at hf; obtain ⟨rfl, rfl⟩ := hf
      obtain ⟨xs, rfl, h3, h4, h5⟩ := inv_agg hv
      obtain ⟨b1, b2, b3, b4⟩ := frzCells_sound hr (F2_of (x := xs.toList) (by simpa using h4) fun i av v h1 h2 => h5 i av v h1 (by simpa using h2)) hy
      obtain ⟨l1, l2⟩ := of_F2 b3
      exact ⟨b1, b2, .agg _ _ (b4 h3) (by simpa using l1) fun i av v h1 h2 => l2 i av v h1 (by simpa using h2)⟩
  · obtain ⟨a1, a2, a3, _⟩ := frzCell_sound hr hv hf
    exact ⟨a1, a2, a3⟩

theorem frzVals_sound {n : Nat} : ∀ {vs vs' : List AV} {xs : List Value} {h h' : AH}, HRel g h W → F2V g W (U g h) vs xs → frzVals n vs h = some (vs', h') → HRel g h' W ∧ Ext g h W g h' W ∧ F2V g W (U g h') vs' xs
  | [], vs', xs, h, h', hr, hf, hz => by simp [frzVals] at hz; obtain ⟨rfl, rfl⟩ := hz; cases hf; exact ⟨hr, Ext.refl _ _ _, .nil⟩
  | c :: cs, cs', xs, h, h', hr, hf, hz => by
    simp only [frzVals] at hz
    obtain ⟨⟨c1, h1⟩, z1, z2⟩ := bind_some_iff.1 hz
    cases hy : frzVals n cs h1 with
    | none => simp [hy] at z2
    | some y =>
      obtain ⟨cs2, h2⟩ := y
      simp [hy] at z2; obtain ⟨rfl, rfl⟩ := z2
      cases hf with
      | cons hv hs =>
        obtain ⟨a1, a2, a3⟩ := frzVal_sound hr hv z1
        obtain ⟨b1, b2, b3⟩ := frzVals_sound a1 (F2.ext a2 hs) hy
        exact ⟨b1, a2.trans b2, .cons (a3.ext b2) b3⟩

/-! ### the call's own blocks are let go -/
theorem get_cut {n i : Nat} : (h.cut n).get i = if i < n then h.get i else none := by
  simp only [AH.get, AH.cut, List.getElem?_take]
  split <;> simp

theorem cut_sound {g0 : G} {h0 : AH} {W0 : World} (he : Ext g0 h0 W0 g h W) (hr0 : HRel g0 h0 W0) (hr : HRel g h W) (hc : h.closed h0.bl.length = true) :
    ∃ g', HRel g' (h.cut h0.bl.length) W ∧ Ext g0 h0 W0 g' (h.cut h0.bl.length) W ∧ ∀ (av : AV) (x : Value), VRel g W (U g h) av x → (∀ r ∈ av.refs, r < h0.bl.length) → VRel g' W (U g' (h.cut h0.bl.length)) av x := by
  let n := h0.bl.length
  let g' : G := ⟨fun id => if id < n then g.mb id else none, g.cp, g.rs⟩
  have hmb : ∀ id x, g'.mb id = some x → id < n ∧ g.mb id = some x := fun id x hx => by
    simp only [g'] at hx
    split at hx
    · rename_i h1; exact ⟨h1, hx⟩
    · cases hx
  have hU : ∀ b o, U g h b o → U g' (h.cut n) b o := fun b o hu => ⟨hu.1, fun id blk hi ⟨r, x, z, h1, h2, h3⟩ => by
    rw [get_cut] at hi
    split at hi
    · exact hu.2 id blk hi ⟨r, x, z, (hmb _ _ h1).2, h2, h3⟩
    · cases hi⟩
  have hk : Keeps W (U g h) W (U g' (h.cut n)) := fun b o v hu hc => ⟨hU b o hu, hc⟩
  have hnar : ∀ (id : Nat) (x : Nat × Nat × Nat), id < n → g.mb id = some x → g'.mb id = some x ∧ g'.cp id = g.cp id := fun id x hid hx => ⟨by simp [g', hid, hx], rfl⟩
  have narrow : ∀ (av : AV) (x : Value), VRel g W (U g h) av x → (∀ r ∈ av.refs, r < n) → VRel g' W (U g' (h.cut n)) av x := fun av x hv hrf =>
    (VRel.narrow (g := g') (g' := g) (n := n) (fun id x hid hx => hnar id x hid hx) hv hrf).mono hk (GLe.refl g')
  have hesc : ∀ id b, id < n → h.get id = some b → ∀ r ∈ blkRefs b, r < n := fun id b hid hb r hrf => by
    rcases hr.esc id b hb r hrf with h1 | h1
    · omega
    · have := List.all_eq_true.1 hc (id, r) h1
      simp only [Bool.not_eq_true', Bool.and_eq_false_iff, decide_eq_false_iff_not] at this
      rcases this with h2 | h2
      · exact absurd hid h2
      · omega
  refine ⟨g', ⟨fun id hid => ?_, fun id b hi => ?_, fun i j bi bj ri xi zi rj xj zj hij hi hj hmi hmj => ?_, fun id b hi => ?_, hr.res, fun id b r x z hi hm => ?_, fun p hp => hk _ _ _ (hr.gl p hp).1 (hr.gl p hp).2⟩,
    ⟨he.os, he.tape, he.output, he.size, fun id x hx => ?_, fun b o hb hu => hU b o (he.free b o hb hu), he.cell, he.obj, he.rs, he.kept⟩, narrow⟩
  · have : ¬ id < n ∨ h.bl.length ≤ id := by
      simp only [AH.cut, List.length_take] at hid
      by_cases h1 : id < n
      · right; have : min h0.bl.length h.bl.length ≤ id := hid; simp only [n] at h1; omega
      · exact .inl h1
    rcases this with h1 | h1
    · simp [g', h1]
    · simp [g', hr.dom id h1]
  · rw [get_cut] at hi
    split at hi
    · rename_i hid
      have hb := hr.blk id b hi
      have hrefs := hesc id b hid hi
      cases b with
      | rows z rs =>
        obtain ⟨r, x, c, t, hm, hh, hcp, hrel⟩ := hb
        refine ⟨r, x, c, t, (hnar id _ hid hm).1, hh, hcp, fun row e he => ⟨(hrel row e he).1, fun j av hj => ?_⟩⟩
        obtain ⟨v, h1, h2⟩ := (hrel row e he).2 j av hj
        exact ⟨v, h1, narrow av v h2 fun q hq => hrefs q (List.mem_flatMap.2 ⟨e, List.mem_of_getElem? he, refsL_mem.2 ⟨av, List.mem_of_getElem? hj, hq⟩⟩)⟩
      | map es =>
        obtain ⟨r, x, z, arr, cl, hm, hh, hs, hrel⟩ := hb
        refine ⟨r, x, z, arr, cl, (hnar id _ hid hm).1, hh, hs, fun i k v e h1 h2 => ?_⟩
        obtain ⟨⟨a, b⟩, c⟩ := hrel i k v e h1 h2
        exact ⟨⟨a, narrow k _ b fun q hq => by rw [a] at hq; cases hq⟩, narrow v _ c fun q hq => hrefs q (List.mem_flatMap.2 ⟨(k, v), List.mem_of_getElem? h1, hq⟩)⟩
      | grow z f =>
        obtain ⟨r, x, cells, t, hm, hh, h1, h2⟩ := hb
        exact ⟨r, x, cells, t, (hnar id _ hid hm).1, hh, h1, h2⟩
    · cases hi
  · rw [get_cut] at hi hj
    split at hi
    · split at hj
      · exact hr.apart i j bi bj ri xi zi rj xj zj hij hi hj (hmb _ _ hmi).2 (hmb _ _ hmj).2
      · cases hj
    · cases hi
  · rw [get_cut] at hi
    split at hi
    · rename_i hid
      exact fun r hrf => (hr.esc id b hi r hrf).imp_right fun hm => List.mem_filter.2 ⟨hm, decide_eq_true hid⟩
    · cases hi
  · rw [get_cut] at hi
    split at hi
    · exact hr.own id b r x z hi (hmb _ _ hm).2
    · cases hi
  · have hid : id < n := Nat.lt_of_not_le fun hle => by rw [hr0.dom id hle] at hx; cases hx
    obtain ⟨h1, h2⟩ := he.gle id x hx
    exact ⟨(hnar id x hid h1).1, h2⟩

theorem leave_sound {g0 : G} {h0 : AH} {W0 : World} (he : Ext g0 h0 W0 g h W) (hr0 : HRel g0 h0 W0) (hr : HRel g h W) {vs : List AV} {xs : List Value} (hf : F2V g W (U g h) vs xs) :
    ∃ g', HRel g' (leave h0.bl.length vs h) W ∧ Ext g0 h0 W0 g' (leave h0.bl.length vs h) W ∧ F2V g' W (U g' (leave h0.bl.length vs h)) vs xs := by
  unfold leave
  split
  · rename_i hc
    simp only [Bool.and_eq_true, List.all_eq_true, decide_eq_true_eq] at hc
    obtain ⟨g', h1, h2, h3⟩ := cut_sound he hr0 hr hc.2
    refine ⟨g', h1, h2, ?_⟩
    have hrefs := hc.1
    clear hc
    induction hf with
    | nil => exact .nil
    | cons hv _ ih => exact .cons (h3 _ _ hv fun r hr => hrefs r (by simp only [refsL, List.mem_append]; exact .inl hr)) (ih fun r hr => hrefs r (by simp only [refsL, List.mem_append]; exact .inr hr))
  · exact ⟨g, hr, he, hf⟩

end
end Go.Proofs.YtfahpmlckobpmaaGreatDoor.Pi
/-
  THE LAW: what the abstract run of a call tells, the model's call tells.
-/
namespace Go.Proofs.YtfahpmlckobpmaaGreatDoor.Pi
open Go

def chkFn (P : Program) (f : Nat) (fn : AFn) : Bool :=
  match P.funcs[f]? with
  | some F => (F.name != "runtime.NumGoroutine") && (match F.body with | some c => chkCode P F.ntmps fn.code c | none => false) &&
      ((fn.results.length == F.results.toList.length) && (fn.results.zip F.results.toList).all fun p => chkRes P p.1 p.2) && decide (fn.nt ≤ F.ntmps)
  | none => false

/-- the law of a function that is told, not walked -/
def ExtS (P : Program) (f : Nat) (k : List AV → AH → Option (AV × AH)) : Prop :=
  ∀ (as : List AV) (g : G) (h : AH) (W : World) (v : AV) (h' : AH) (vs : Array Value), k as h = some (v, h') → HRel g h W → ArgsR g W (U g h) as vs →
    NextOK P (fun x w' => ∃ g', HRel g' h' w' ∧ Ext g h W g' h' w' ∧ VRel g' w' (U g' h') v x) ((callFunc f vs).run P W)

structure EnvOK (P : Program) (E : Env) : Prop where
  fns : ∀ f fn, E.ext f = none → E.fns f = some fn → chkFn P f fn = true
  ext : ∀ f k, E.ext f = some k → ExtS P f k

theorem argFr_get : ∀ (as : List AV) (i j : Nat), fget (argFr i as) j = if i ≤ j then (as[j - i]?).getD .any else .any
  | [], i, j => by simp [argFr, fget]
  | a :: as, i, j => by
    simp only [argFr, fget]
    by_cases h : i = j
    · subst h; simp
    · simp only [h, if_false]
      rw [argFr_get as (i + 1) j]
      by_cases h1 : i ≤ j
      · have h2 : i + 1 ≤ j := by omega
        have h3 : j - i = (j - (i + 1)) + 1 := by omega
        simp only [h1, h2, if_true, h3, List.getElem?_cons_succ]
      · have h2 : ¬ i + 1 ≤ j := by omega
        simp only [h1, h2, if_false]

section
variable {P : Program} {g : G} {h : AH} {W : World}

theorem args_frel {as : List AV} {vs : Array Value} (ha : ArgsR g W (U g h) as vs) (n : Nat) : FRel g h W (argFr 0 as) (vs ++ Array.replicate n undef) := fun i => by
  rw [argFr_get]
  simp only [Nat.zero_le, if_true, Nat.sub_zero]
  cases hi : as[i]? with
  | none => exact .any _
  | some av =>
    have hlt : i < vs.size := by rw [← ha.1]; exact (List.getElem?_eq_some_iff.1 hi).1
    have h1 : (vs ++ Array.replicate n undef).getD i undef = vs[i] := by
      simp [Array.getElem?_append, hlt]
    rw [h1]
    exact ha.2 i av _ hi (by simp [hlt])

theorem body_sound {call : CallF} (hcall : CallS P call) {k f : Nat} {fn : AFn} (hc : chkFn P f fn = true) {as : List AV} {vs : Array Value} {v : AV} {h' : AH} (hr : HRel g h W) (ha : ArgsR g W (U g h) as vs) (hx : bodyRun call k fn as h = some (v, h')) :
    NextOK P (fun x w' => ∃ g', HRel g' h' w' ∧ Ext g h W g' h' w' ∧ VRel g' w' (U g' h') v x) ((callFunc f vs).run P W) := by
  unfold chkFn at hc
  split at hc
  · rename_i F hF
    simp only [Bool.and_eq_true, bne_iff_ne, ne_eq, beq_iff_eq, decide_eq_true_eq] at hc
    obtain ⟨⟨⟨c1, c2⟩, c3, c4⟩, c5⟩ := hc
    split at c2
    · rename_i c hb
      unfold bodyRun at hx
      split at hx
      · rename_i hlen
        obtain ⟨⟨e, fr1, h1⟩, x1, x2⟩ := bind_some_iff.1 hx
        have hrun : (callFunc f vs).run P W = .ok (.enter f vs) W := by
          unfold callFunc
          rw [Sem.run_bind, run_program]
          simp [hF, c1, hb]
        rw [hrun]
        show Calls P f vs W _
        have hsz : (vs ++ Array.replicate (F.ntmps - vs.size) undef).size = F.ntmps := by
          have : vs.size ≤ F.ntmps := by rw [← ha.1]; omega
          simp; omega
        refine calls_of_wp hF hb (code_sound hcall fn.code c c2 (argFr 0 as) g h W _ e fr1 h1 hr (args_frel ha _) hsz rfl x1 _ fun a' W' hl => ?_)
        obtain ⟨q1, q2, g1, q3, q4, q5⟩ := hl
        have fin : finish fn h.next fr1 h1 = some (v, h') → a'.defers = [] ∧ ∃ x, (Go.results F a'.tmps).run P W' = .ok x W' ∧ ∃ g', HRel g' h' W' ∧ Ext g h W g' h' W' ∧ VRel g' W' (U g' h') v x := fun hfin => by
          unfold finish at hfin
          obtain ⟨us, f1, f2⟩ := bind_some_iff.1 hfin
          obtain ⟨xs, r1, r2⟩ := results_sound (P := P) q3 q5 c3 c4 f1
          refine ⟨q2, (if h : xs.toArray.size = 1 then xs.toArray[0] else .tuple xs.toArray), ?_, ?_⟩
          · rw [results_eq, Array.mapM_eq_mapM_toList, Sem.run_bind, map_eq_pure_bind, Sem.run_bind, r1]
            rfl
          · split at f2
            · obtain ⟨⟨us', h2⟩, f3, f4⟩ := bind_some_iff.1 f2
              simp only [Option.some.injEq, Prod.mk.injEq] at f4
              obtain ⟨rfl, rfl⟩ := f4
              obtain ⟨z1, z2, z3⟩ := frzVals_sound q3 r2 f3
              obtain ⟨g', l1, l2, l3⟩ := leave_sound (q4.trans z2) hr z1 z3
              exact ⟨g', l1, l2, asResult_rel l3⟩
            · simp only [Option.some.injEq, Prod.mk.injEq] at f2
              obtain ⟨rfl, rfl⟩ := f2
              obtain ⟨g', l1, l2, l3⟩ := leave_sound q4 hr q3 r2
              exact ⟨g', l1, l2, asResult_rel l3⟩
        cases e with
        | exit id => cases x2
        | norm => exact fin x2
        | ret => exact fin x2
      · cases hx
    · cases c2
  · cases hc

/-- **the abstract calls are the model's** -/
theorem sound {E : Env} (hE : EnvOK P E) : ∀ k, CallS P (callRun E k)
  | 0, f, as, g, h, W, v, h', vs, hx, _, _ => by simp [callRun] at hx
  | k + 1, f, as, g, h, W, v, h', vs, hx, hr, ha => by
    simp only [callRun] at hx
    cases he : E.ext f with
    | some q => simp only [he] at hx; exact hE.ext f q he as g h W v h' vs hx hr ha
    | none =>
      simp only [he] at hx
      cases hf : E.fns f with
      | none => simp [hf] at hx
      | some fn =>
        simp only [hf] at hx
        exact body_sound (sound hE k) (hE.fns f fn he hf) hr ha hx

/-- nothing at all is known of the memory, and nothing numbered -/
theorem start (W : World) (hg : ∀ p ∈ GL, W.cell? ⟨p.1, 0, none⟩ = some p.2) : HRel ⟨fun _ => none, fun _ => 0, fun _ => False⟩ ⟨[], []⟩ W :=
  ⟨fun _ _ => rfl, fun id b h => by simp [AH.get] at h, fun i j bi bj _ _ _ _ _ _ _ h => by simp [AH.get] at h, fun id b h => by simp [AH.get] at h, fun b h => h.elim, fun id b _ _ _ h => (by simp [AH.get] at h), fun p hp => ⟨⟨fun h => h, fun id b h => by simp [AH.get] at h⟩, hg p hp⟩⟩

/-- **a whole call**: of arguments told by value -/
theorem calls_sound {E : Env} (hE : EnvOK P E) (hg : ∀ p ∈ GL, W.cell? ⟨p.1, 0, none⟩ = some p.2) {f : Nat} {as : List AV} {vs : Array Value} {v : AV} {h' : AH} (hx : C E f as ⟨[], []⟩ = some (v, h')) (hf : ∃ F, P.funcs[f]? = some F ∧ F.body.isSome = true ∧ F.name ≠ "runtime.NumGoroutine")
    (ha : as.length = vs.size ∧ ∀ (i : Nat) (av : AV) (x : Value), as[i]? = some av → vs[i]? = some x → PRel W (fun _ _ => True) av x) :
    Calls P f vs W fun e w' => ∃ x, e = .returned x ∧ W.heap.size ≤ w'.heap.size ∧ w'.os = W.os ∧ w'.tape = W.tape ∧ w'.output = W.output ∧ (∀ b, b < W.heap.size → w'.heap[b]? = W.heap[b]?) ∧
      ∃ g' h', VRel g' w' (U g' h') v x := by
  obtain ⟨k, hk⟩ := C_iff.1 hx
  have hUt : U (⟨fun _ => none, fun _ => 0, fun _ => False⟩ : G) ⟨[], []⟩ = fun _ _ => True := by
    funext b o
    apply propext
    exact ⟨fun _ => trivial, fun _ => ⟨fun h => h, fun id blk hg => by simp [AH.get] at hg⟩⟩
  have := sound hE k f as _ _ W v h' vs hk (start W hg) ⟨ha.1, fun i av x h1 h2 => by rw [hUt]; exact .pure _ _ (ha.2 i av x h1 h2)⟩
  obtain ⟨F, h1, h2, h3⟩ := hf
  have hrun : (callFunc f vs).run P W = .ok (.enter f vs) W := by
    unfold callFunc
    rw [Sem.run_bind, run_program]
    cases hb : F.body with
    | none => rw [hb] at h2; cases h2
    | some c => simp [h1, h3, hb]
  rw [hrun] at this
  refine Calls.mono this fun e w' he => ?_
  cases e with
  | returned x =>
    obtain ⟨g', q1, q2, q3⟩ := he
    exact ⟨x, rfl, q2.size, q2.os, q2.tape, q2.output, fun b hb => q2.obj b hb fun o => by rw [hUt]; trivial, g', h', q3⟩
  | panicked c => exact he.elim
  | outgrown => exact he.elim

end
end Go.Proofs.YtfahpmlckobpmaaGreatDoor.Pi
/-
  Functions by number: a search tree.
-/
namespace Go.Proofs.YtfahpmlckobpmaaGreatDoor.Pi
open Go

inductive FT where
  | leaf
  | node (k : Nat) (f : AFn) (l r : FT)

def FT.get : FT → Nat → Option AFn
  | .leaf, _ => none
  | .node k f l r, i => if i = k then some f else if i < k then l.get i else r.get i

def FT.Ok (P : Program) : FT → Prop
  | .leaf => True
  | .node k f l r => chkFn P k f = true ∧ l.Ok P ∧ r.Ok P

theorem FT.ok {P : Program} : ∀ {t : FT}, t.Ok P → ∀ {i : Nat} {f : AFn}, t.get i = some f → chkFn P i f = true
  | .leaf, _, i, f, h => by cases h
  | .node k f' l r, ho, i, f, h => by
    simp only [FT.get] at h
    split at h
    · rename_i e; subst e; simp at h; subst h; exact ho.1
    · split at h
      · exact FT.ok ho.2.1 h
      · exact FT.ok ho.2.2 h

/-- the place of a byte; -1: it isn't there -/
def idxB (c : Nat) : List Nat → Nat → Int
  | [], _ => -1
  | b :: r, i => if b = c then (i : Int) else idxB c r (i + 1)

def kIndexByte : List AV → AH → Option (AV × AH)
  | [.str s, .int .u8 (.ofNat c)], h => if c < 256 then some (.int .i64 (idxB c s 0), h) else none
  | _, _ => none

def storeAt (id row off : Nat) (v : AV) (h : AH) : Option AH :=
  match h.get id with
  | some (.rows z rs) => (rs[row]?).bind fun cs => (splice cs off [v]).bind fun cs => some ((h.set id (.rows z (rs.set row cs))).note id (refsL [v]))
  | _ => none

/-- errors.As: the types are Errno, *Errno, *At, **At -/
def kAs (tN tPN tA tPA : Nat) : List AV → AH → Option (AV × AH)
  | [.nili, _], h => some (.bool false, h)
  | [.iface te (.int .i64 n), .iface tt (.ptr id row off)], h =>
    if te = tN then
      if tt = tPN then (storeAt id row off (.int .i64 n) h).map fun h => (.bool true, h)
      else if tt = tPA then (h.get id).bind fun b => match b with | .rows _ rs => (rs[row]?).bind fun cs => if off < cs.length then some (.bool false, h) else none | _ => none
      else none
    else none
  | [.iface te (.ref cs), .iface tt (.ptr id row off)], h =>
    if te = tA then
      if tt = tPN then
        match cs with
        | [_, .iface tn (.int .i64 n)] => if tn = tN then (storeAt id row off (.int .i64 n) h).map fun h => (.bool true, h) else none
        | _ => none
      else if tt = tPA then (storeAt id row off (.ref cs) h).map fun h => (.bool true, h)
      else none
    else none
  | _, _ => none

end Go.Proofs.YtfahpmlckobpmaaGreatDoor.Pi
