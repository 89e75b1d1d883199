/-
  The shadow machine, part Arg: a law's arguments, as they come in, read as pure values.
-/
import Derived.Test.YtihhaeklacphbaaDoorShS
import Derived.SliceStrings
import Derived.ChangeMaps5
import Derived.OpenShut
set_option linter.unusedSimpArgs false
set_option linter.unusedVariables false
namespace Go.Sh
open Go.ChangeShapes Go.WideShapes

section
variable {H : Type} {enc : TypeId × Value → H} {P : Program} {w : World} {base : Nat} {held : Bool} {r : Reach} {b0 : Nat} {t e : TypeId} {v : Value} {d : DataW H} {ps : List MemPlace}

theorem slice_spot (ht : P.underlying t = some (.slice e)) {a : Addr} {len cap : Nat} (h : Value.okWide P w r b0 t (.slice (some a) len cap)) : a.spot = none := by
  unfold Value.okWide at h
  rw [ht] at h
  simp only [Cell.okWide, ht, Cell.ok] at h
  exact h.2.2.2.1

theorem add_none {a : Addr} (h : a.spot = none) (i : Nat) : a.add i = ⟨a.block, a.off + i, none⟩ := by
  obtain ⟨b, off, spot⟩ := a
  simp only at h
  subst h
  simp [Addr.add]

theorem V_ro {N b off len cap : Nat} {xs : List SV} {f : Nat → Value} {o : Option Owner} (hlen : len ≤ cap) (hl : xs.length = len) (hcell : ∀ i, i < xs.length → w.cell? ⟨b, off + i, none⟩ = some (f i)) (hone : ∀ i, i < xs.length → (f i).oneCell' = true)
    (hx : ∀ i (h : i < xs.length), V (g0 N) w none (f i) (xs[i]'h)) (hN : off + len ≤ N) : V (g0 N) w o (.slice (some ⟨b, off, none⟩) len cap) (.sl xs len .ro) :=
  .sl o b off len cap xs .ro f hlen hcell hone hx (.inr (by show off + xs.length ≤ N; omega))

theorem arg_ints {k : IntKind} (ht : P.underlying t = some (.slice e)) (he : P.underlying e = some (.int k)) (hc : P.cellsOf e = 1) (hval : Value.okWide P w r b0 t v) (hd : DataW.Trod enc P w base (fun _ => true) held t v d ps) :
    ∃ (zs : List Int) (sv : SV) (N0 : Nat), ((sv = .nilS ∧ zs = []) ∨ sv = .sl (zs.map (.int k)) zs.length .ro) ∧ (∀ N, N0 ≤ N → V (g0 N) w none v sv) ∧ (∀ z ∈ zs, (Lit.int k z).wf = true) ∧ zs.length ≤ maxLen ∧
      ((d = .nil ∧ zs = []) ∨ ∃ sp, d = .slice (zs.map fun n => .lit (.int k n)) sp) := by
  obtain ⟨a, len, cap, rfl⟩ := okWide_slice ht hval
  obtain ⟨fuel, hf⟩ := hd
  rcases open_ints ht he hc hf with ⟨hcs, hx⟩ | ⟨a', len', cap', zs, hcs, _, hl, hm, hz, hx, hcell, hwz⟩
  · simp [Value.cells] at hcs
    obtain ⟨rfl, rfl, rfl⟩ := hcs
    simp only [Prod.mk.injEq] at hx
    exact ⟨[], .nilS, 0, .inl ⟨rfl, rfl⟩, fun _ _ => .nilS _, by simp, by simp, .inl ⟨hx.1, rfl⟩⟩
  · simp [Value.cells] at hcs
    obtain ⟨rfl, rfl, rfl⟩ := hcs
    simp only [Prod.mk.injEq] at hx
    simp only [if_true] at hz
    have hsp := slice_spot ht hval
    have hlen : (zs.take len).length = len := by simp; omega
    refine ⟨zs.take len, .sl ((zs.take len).map (.int k)) (zs.take len).length .ro, a'.off + len, .inr rfl, fun N hN => ?_, fun z hz => hwz z (List.mem_of_mem_take hz), by omega, .inr ⟨_, hx.1⟩⟩
    obtain ⟨b, off, spot⟩ := a'
    simp only at hsp hN
    subst hsp
    rw [hlen]
    refine V_ro (f := fun i => .int k (zs.getD i 0)) hl (by simp; omega) (fun i hi => ?_) (fun _ _ => rfl) (fun i hi => ?_) hN
    · have := hcell i (by simp at hi; omega)
      rwa [add_none rfl] at this
    · simp only [List.getElem_map, List.getElem_take]
      have hi' : i < zs.length := by simp at hi; omega
      rw [List.getD_eq_getElem?_getD, List.getElem?_eq_getElem hi']
      exact .int _ _ _

theorem arg_bytes (ht : P.underlying t = some (.slice e)) (he : P.underlying e = some (.int .u8)) (hc : P.cellsOf e = 1) (hval : Value.okWide P w r b0 t v) (hd : DataW.Trod enc P w base (fun _ => true) held t v d ps) :
    ∃ (l : List UInt8) (sv : SV) (N0 : Nat), ((sv = .nilS ∧ l = []) ∨ sv = .sl (l.map fun b => .int .u8 b.toNat) l.length .ro) ∧ (∀ N, N0 ≤ N → V (g0 N) w none v sv) ∧ l.length ≤ maxLen ∧
      ((d = .nil ∧ l = []) ∨ ∃ sp, d = .slice (l.map fun b => .lit (.int .u8 b.toNat)) sp) := by
  obtain ⟨zs, sv, N0, h1, h2, h3, h4, h5⟩ := arg_ints ht he hc hval hd
  have hz : ∀ z ∈ zs, ((UInt8.ofNat z.toNat).toNat : Int) = z := by
    intro z hz
    have : 0 ≤ z ∧ z ≤ 255 := by simpa [Lit.wf, IntKind.min, IntKind.max, IntKind.signed, IntKind.bits] using h3 z hz
    simp only [UInt8.toNat_ofNat']
    omega
  have e1 : ∀ {α : Type} (f : Int → α), (zs.map fun z => UInt8.ofNat z.toNat).map (fun b => f b.toNat) = zs.map f := by
    intro α f
    rw [List.map_map]
    refine List.map_congr_left fun z hz' => ?_
    show f _ = f z
    rw [hz z hz']
  refine ⟨zs.map fun z => UInt8.ofNat z.toNat, sv, N0, ?_, h2, by simpa using h4, ?_⟩
  · rw [e1 (SV.int .u8), List.length_map]
    rcases h1 with ⟨h, rfl⟩ | h
    · exact .inl ⟨h, rfl⟩
    · exact .inr h
  · rw [e1 (fun n => DataW.lit (H := H) (.int .u8 n))]
    rcases h5 with ⟨h, rfl⟩ | h
    · exact .inl ⟨h, rfl⟩
    · exact .inr h

theorem arg_strings (ht : P.underlying t = some (.slice e)) (he : P.underlying e = some .string) (hc : P.cellsOf e = 1) (hval : Value.okWide P w r b0 t v) (hd : DataW.Trod enc P w base (fun _ => true) held t v d ps) :
    ∃ (l : List (List UInt8)) (sv : SV) (N0 : Nat), ((sv = .nilS ∧ l = []) ∨ sv = .sl (l.map .str) l.length .ro) ∧ (∀ N, N0 ≤ N → V (g0 N) w none v sv) ∧ l.length ≤ maxLen ∧ (∀ x ∈ l, x.length ≤ maxLen) ∧
      ((d = .nil ∧ l = []) ∨ ∃ sp, d = .slice (l.map fun s => .lit (.string s)) sp) := by
  obtain ⟨a, len, cap, rfl⟩ := okWide_slice ht hval
  obtain ⟨fuel, hf⟩ := hd
  rcases open_strings ht he hc hf with ⟨hcs, hx⟩ | ⟨a', len', cap', zs, hcs, _, hl, hm, hz, hx, hcell, hwz⟩
  · simp [Value.cells] at hcs
    obtain ⟨rfl, rfl, rfl⟩ := hcs
    simp only [Prod.mk.injEq] at hx
    exact ⟨[], .nilS, 0, .inl ⟨rfl, rfl⟩, fun _ _ => .nilS _, by simp, by simp, .inl ⟨hx.1, rfl⟩⟩
  · simp [Value.cells] at hcs
    obtain ⟨rfl, rfl, rfl⟩ := hcs
    simp only [Prod.mk.injEq] at hx
    simp only [if_true] at hz
    have hsp := slice_spot ht hval
    have hlen : (zs.take len).length = len := by simp; omega
    refine ⟨(zs.take len).map (·.data.toList), .sl (((zs.take len).map (·.data.toList)).map .str) ((zs.take len).map (·.data.toList)).length .ro, a'.off + len, .inr rfl, fun N hN => ?_, by simp; omega, ?_, .inr ⟨strs (zs.drop len), ?_⟩⟩
    · obtain ⟨b, off, spot⟩ := a'
      simp only at hsp hN
      subst hsp
      rw [List.length_map, hlen]
      refine V_ro (f := fun i => .string (zs.getD i ByteArray.empty)) hl (by simp; omega) (fun i hi => ?_) (fun _ _ => rfl) (fun i hi => ?_) hN
      · have := hcell i (by simp at hi; omega)
        rwa [add_none rfl] at this
      · simp only [List.getElem_map, List.getElem_take]
        have hi' : i < zs.length := by simp at hi; omega
        rw [List.getD_eq_getElem?_getD, List.getElem?_eq_getElem hi']
        exact .str _ _
    · intro x hx
      obtain ⟨s, hs, rfl⟩ := List.mem_map.1 hx
      exact hwz s (List.mem_of_mem_take hs)
    · rw [hx.1, List.map_map]; rfl
end

end Go.Sh
