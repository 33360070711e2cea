/-
  The law of a function that is told: the place of a byte in a text.
-/
import Derived.Test.YtfahpmlckobpmaaGreatDoorPiG
import Derived.Laws.Externs
import Derived.Test.YtfahpmlckobpmaaGreatDoorAsX
set_option linter.unusedSimpArgs false
set_option linter.unusedVariables false
set_option linter.unusedSectionVars false
namespace Go.Proofs.YtfahpmlckobpmaaGreatDoor.Pi
open Go

theorem u8_eq {b : UInt8} {c : Nat} (hc : c < 256) : (b == c.toUInt8) = decide (b.toNat = c) := by
  have h1 : c.toUInt8.toNat = c := by simp [Nat.toUInt8]; omega
  by_cases h : b = c.toUInt8
  · subst h; simp [h1]
  · have : b.toNat ≠ c := fun e => h (UInt8.toNat_inj.1 (by rw [h1]; exact e))
    simp [h, this]

theorem idx_find {c : Nat} (hc : c < 256) : ∀ (l : List UInt8) (k : Nat) (p : Nat → Bool), (∀ (j : Nat) (b : UInt8), l[j]? = some b → p (k + j) = (b == c.toUInt8)) →
    (match (List.range' k l.length).find? p with | some i => (i : Int) | none => -1) = idxB c (l.map UInt8.toNat) k
  | [], k, p, _ => rfl
  | b :: l, k, p, hp => by
    have h0 := hp 0 b rfl
    rw [Nat.add_zero, u8_eq hc] at h0
    simp only [List.length_cons, List.range'_succ, List.find?_cons, h0, List.map_cons, idxB]
    by_cases h : b.toNat = c
    · simp [h]
    · simp only [h, decide_false, if_false]
      exact idx_find hc l (k + 1) p fun j b hj => by
        have := hp (j + 1) b (by simpa using hj)
        rw [← this]; congr 1; omega

theorem firstIdx_eq (s : ByteArray) {c : Nat} (hc : c < 256) : firstIdx s c.toUInt8 = idxB c (bytesOf s) 0 := by
  have := idx_find hc s.data.toList 0 (fun i => s[i]! == c.toUInt8) fun j b hj => by
    rw [Nat.zero_add]
    have hlt : j < s.data.toList.length := (List.getElem?_eq_some_iff.1 hj).1
    have hlt' : j < s.size := by simpa using hlt
    have hb : s.data.toList[j] = b := (List.getElem?_eq_some_iff.1 hj).2
    have : s[j]! = b := by
      rw [getElem!_pos s j hlt', ← hb]; simp [ByteArray.getElem_eq_getElem_data]
    rw [this]
  have hsz : s.data.toList.length = s.size := Array.length_toList
  rw [hsz] at this
  unfold firstIdx bytesOf
  rw [← this, List.range_eq_range']
  cases List.find? (fun i => s[i]! == c.toUInt8) (List.range' 0 s.size) <;> rfl

theorem indexByte_ext {P : Program} {f : Nat} (he : ∀ (args : Array Value) (w : World), (callFunc f args).run P w = ((Extern.BytealgIndexByte.indexByte args).run P w).andThen fun v w' => .ok (.value v) w') : ExtS P f kIndexByte := by
  intro xs g h W v h' vs hk hr ha
  unfold kIndexByte at hk
  split at hk
  · rename_i s c
    split at hk
    · rename_i hc
      simp only [Option.some.injEq, Prod.mk.injEq] at hk
      obtain ⟨rfl, rfl⟩ := hk
      obtain ⟨hl, hv⟩ := ha
      have hsz : vs.size = 2 := by rw [← hl]; rfl
      have h0 := hv 0 (.str s) vs[0] rfl (by simp [hsz])
      have h1 := hv 1 (.int .u8 (.ofNat c)) vs[1] rfl (by simp [hsz])
      obtain ⟨b, e0, e1⟩ := inv_str h0
      have e2 := inv_int h1
      have hvs : vs = #[.string b, .int .u8 (c : Int)] := by
        apply Array.ext
        · simpa using hsz
        · intro i h1 h2
          match i, h2 with
          | 0, _ => exact e0
          | 1, _ => exact e2
      rw [he, hvs, run_indexByte_string]
      show ∃ g', _
      refine ⟨g, hr, Ext.refl _ _ _, ?_⟩
      have : ((c : Int).toNat).toUInt8 = c.toUInt8 := by simp
      rw [this, firstIdx_eq b hc, e1]
      exact .pure _ _ (.int _ _)
    · cases hk
  · cases hk

end Go.Proofs.YtfahpmlckobpmaaGreatDoor.Pi
/-
  The environment is the program's.
-/
namespace Go.Proofs.YtfahpmlckobpmaaGreatDoor.Pi
open Go

set_option maxRecDepth 100000 in
theorem idx_ext : ExtS Go.Proofs.Tryz.prog K_internal_bytealg_IndexByteString kIndexByte :=
  indexByte_ext (@run_callFunc_extern Go.Proofs.Tryz.prog K_internal_bytealg_IndexByteString _ Extern.BytealgIndexByte.indexByte Go.Proofs.Tryz.func170 (by kernel_rfl) (by kernel_rfl) (by kernel_rfl) (by kernel_rfl))

set_option maxRecDepth 100000 in
theorem env_ok : EnvOK Go.Proofs.Tryz.prog EE where
  fns := fun f fn _ hf => FT.ok fns_ok hf
  ext := fun f k hk => by
    simp only [EE, exts] at hk
    split at hk
    · rename_i e; subst e; exact (Option.some.inj hk) ▸ as_ext
    · split at hk
      · rename_i e; subst e; exact (Option.some.inj hk) ▸ idx_ext
      · cases hk
end Go.Proofs.YtfahpmlckobpmaaGreatDoor.Pi
