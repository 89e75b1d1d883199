/-
  The shadow machine, part M: filled memory; slices of slices; objects.
-/
import Derived.Test.YtihhaeklacphbaaDoorShL
set_option linter.unusedSimpArgs false
set_option linter.unusedVariables false
namespace Go.Sh

section
variable {P : Program} {g0 : Gh} {w0 : World} {g : Gh} {w : World} {s : S} {a : Act} {o : Oper}

/-- Cells of the model, and what they are read as. -/
def Cs (g : Gh) (w : World) (C : Array Value) (xs : List SV) : Prop :=
  C.size = xs.length ∧ ∀ i (h : i < C.size) (h' : i < xs.length), (C[i]'h).oneCell' = true ∧ V g w none (C[i]'h) (xs[i]'h')

theorem isCell_one {ow : Option Owner} {v : Value} {sv : SV} (h : V g w ow v sv) (hc : isCell sv = true) : v.oneCell' = true ∧ v.cells = #[v] := by
  cases h <;> first
    | (simp [isCell] at hc; done)
    | exact ⟨rfl, rfl⟩

/-- A value's cells. -/
theorem cells_ok {v : Value} {sv : SV} (h : V g w none v sv) (hc : (cellsV sv).all isCell = true) : Cs g w v.cells (cellsV sv) := by
  by_cases ha : ∃ xs, sv = .agg xs
  · obtain ⟨xs, rfl⟩ := ha
    cases h with
    | agg _ cs _ hl hone hx => exact ⟨hl, fun i hi hi' => ⟨hone i hi, hx i hi hi'⟩⟩
  · have e : cellsV sv = [sv] := by
      unfold cellsV; split
      · exact absurd ⟨_, rfl⟩ ha
      · rfl
    rw [e] at hc ⊢
    simp only [List.all_cons, List.all_nil, Bool.and_true] at hc
    obtain ⟨h1, h2⟩ := isCell_one h hc
    rw [h2]
    refine ⟨rfl, fun i hi hi' => ?_⟩
    simp at hi
    subst hi
    exact ⟨h1, h⟩

theorem Cs.set {C : Array Value} {xs : List SV} (h : Cs g w C xs) {i : Nat} {v : Value} {sv : SV} (h1 : v.oneCell' = true) (hv : V g w none v sv) : Cs g w (C.setIfInBounds i v) (xs.set i sv) := by
  refine ⟨by simpa using h.1, fun j hj hj' => ?_⟩
  rw [Array.getElem_setIfInBounds, List.getElem_set]
  split
  · exact ⟨h1, hv⟩
  · exact h.2 j (by simpa using hj) (by simpa using hj')

theorem Cs.fold {off : Nat} : ∀ (L : List Value) (l : List SV) (k : Nat) (C : Array Value) (xs : List SV), L.length = l.length → (∀ i (h : i < L.length) (h' : i < l.length), (L[i]'h).oneCell' = true ∧ V g w none (L[i]'h) (l[i]'h')) → Cs g w C xs →
    Cs g w ((L.zipIdx k).foldl (fun cs (x : Value × Nat) => cs.setIfInBounds (off + x.2) x.1) C) (wrCells xs (off + k) l)
  | [], [], k, C, xs, _, _, h => by simpa [wrCells] using h
  | v :: L, sv :: l, k, C, xs, hl, hv, h => by
    simp only [List.zipIdx_cons, List.foldl_cons, wrCells]
    have h0 := hv 0 (by simp) (by simp)
    simp only [List.getElem_cons_zero] at h0
    exact Cs.fold L l (k + 1) _ _ (by simpa using hl) (fun i hi hi' => by have := hv (i + 1) (by simp; omega) (by simp; omega); simpa using this) (h.set h0.1 h0.2)
  | [], _ :: _, _, _, _, hl, _, _ => by simp at hl
  | _ :: _, [], _, _, _, hl, _, _ => by simp at hl

theorem fill_ok {place : Nat → Option (Nat × Nat)} : ∀ (parts : List (Nat × Value)) (ps : List (Nat × Nat × SV)) (C : Array Value) (xs ys : List SV), parts.length = ps.length →
    (∀ i (h : i < parts.length) (h' : i < ps.length), place (parts[i]'h).1 = some ((ps[i]'h').1, (ps[i]'h').2.1) ∧ V g w none (parts[i]'h).2 (ps[i]'h').2.2) → Cs g w C xs → fillV xs ps = some ys →
    ∃ C', Instr.fill place C parts = some C' ∧ Cs g w C' ys
  | [], [], C, xs, ys, _, _, h, hf => by
    simp only [fillV, Option.some.injEq] at hf
    subst hf
    exact ⟨C, rfl, h⟩
  | (i, v) :: parts, (off, size, sv) :: ps, C, xs, ys, hl, hp, h, hf => by
    simp only [fillV] at hf
    split at hf
    · rename_i hc
      obtain ⟨h0, hv⟩ := hp 0 (by simp) (by simp)
      simp only [List.getElem_cons_zero] at h0 hv
      have hcs := cells_ok hv hc.2.2
      have hsz : v.cells.size = size := by rw [hcs.1]; exact hc.1
      have hfold := Cs.fold (off := off) v.cells.toList (cellsV sv) 0 C xs (by simpa using hcs.1) (fun i hi hi' => by simpa using hcs.2 i (by simpa using hi) hi') h
      obtain ⟨C', hC', hr⟩ := fill_ok parts ps _ _ ys (by simpa using hl) (fun j hj hj' => by have := hp (j + 1) (by simp; omega) (by simp; omega); simpa using this) hfold hf
      refine ⟨C', ?_, hr⟩
      simp only [Instr.fill, h0]
      rw [if_neg]
      · have e : v.cells.zipIdx.foldl (fun cs (x : Value × Nat) => cs.setIfInBounds (off + x.2) x.1) C = (v.cells.toList.zipIdx 0).foldl (fun cs (x : Value × Nat) => cs.setIfInBounds (off + x.2) x.1) C := by
          rw [← Array.foldl_toList]
          simp
        rw [e]
        exact hC'
      · rw [h.1, hsz]
        simp
        exact hc.2.1
    · cases hf
  | [], _ :: _, _, _, _, hl, _, _, _ => by simp at hl
  | _ :: _, [], _, _, _, hl, _, _, _ => by simp at hl

/-- A type's zero, cell by cell. -/
theorem zero_ok {t : TypeId} {i : TypeInfo} {z : Value} {zs : List SV} (hi : P.info? t = some i) (hz : i.zero = some z) (h : zeroL P t = some zs) : Cs g w z.cells zs := by
  unfold zeroL at h
  rw [hi] at h
  simp only [Option.bind_some, hz] at h
  have key : ∀ (L : List Value) (l : List SV), L.mapM litOf = some l → L.length = l.length ∧ ∀ i (h : i < L.length) (h' : i < l.length), litOf (L[i]'h) = some (l[i]'h') := by
    intro L
    induction L with
    | nil => intro l h; simp at h; subst h; exact ⟨rfl, fun i h => by simp at h⟩
    | cons v L ih =>
      intro l h
      simp only [List.mapM_cons, Option.bind_eq_bind, Option.bind_eq_some_iff, Option.pure_def, Option.some.injEq] at h
      obtain ⟨sv, h1, l', h2, rfl⟩ := h
      obtain ⟨h3, h4⟩ := ih l' h2
      refine ⟨by simp [h3], fun i hi hi' => ?_⟩
      cases i with
      | zero => exact h1
      | succ i => exact h4 i (by simpa using hi) (by simpa using hi')
  obtain ⟨h1, h2⟩ := key _ _ h
  refine ⟨by simpa using h1, fun i hi hi' => ?_⟩
  have := h2 i (by simpa using hi) hi'
  simp only [Array.getElem_toList] at this
  refine ⟨?_, litOf_ok this g w none⟩
  generalize z.cells[i] = v at this
  unfold litOf at this
  split at this <;> first | rfl | cases this

theorem zero_some {t : TypeId} {zs : List SV} (h : zeroL P t = some zs) : ∃ i z, P.info? t = some i ∧ i.zero = some z := by
  unfold zeroL at h
  obtain ⟨z, hz, _⟩ := Option.bind_eq_some_iff.1 h
  obtain ⟨i, hi, hz⟩ := Option.bind_eq_some_iff.1 hz
  exact ⟨i, z, hi, hz⟩

theorem rep_length (n : Nat) (zs : List SV) : (rep n zs).length = n * zs.length := by
  simp [rep]

theorem rep_get? (zs : List SV) : ∀ (n j : Nat), j < n * zs.length → (rep n zs)[j]? = zs[j % zs.length]?
  | 0, j, h => by simp at h
  | n + 1, j, h => by
    have e : rep (n + 1) zs = zs ++ rep n zs := by simp [rep, List.replicate_succ]
    rw [e, List.getElem?_append]
    split
    · rename_i hj; rw [Nat.mod_eq_of_lt hj]
    · rename_i hj
      rw [Nat.add_mul] at h
      rw [rep_get? zs n _ (by omega), Nat.mod_eq_sub_mod (a := j) (by omega)]

theorem rep_get (n : Nat) (zs : List SV) (j : Nat) (h : j < (rep n zs).length) : ∃ h' : j % zs.length < zs.length, (rep n zs)[j] = zs[j % zs.length] := by
  have h2 : j < n * zs.length := by rwa [rep_length] at h
  have hp : 0 < zs.length := by
    rcases Nat.eq_zero_or_pos zs.length with h' | h'
    · rw [h', Nat.mul_zero] at h2; omega
    · exact h'
  refine ⟨Nat.mod_lt _ hp, ?_⟩
  have := rep_get? zs n j h2
  rw [List.getElem?_eq_getElem h, List.getElem?_eq_getElem (Nat.mod_lt _ hp)] at this
  simpa using this

theorem foldl_sets_size {off : Nat} : ∀ (L : List (Value × Nat)) (C : Array Value), (L.foldl (fun cs (x : Value × Nat) => cs.setIfInBounds (off + x.2) x.1) C).size = C.size
  | [], _ => rfl
  | x :: L, C => by
    rw [List.foldl_cons, foldl_sets_size L]
    simp

theorem fill_size {place : Nat → Option (Nat × Nat)} : ∀ (parts : List (Nat × Value)) (C C' : Array Value), Instr.fill place C parts = some C' → C'.size = C.size
  | [], C, C', h => by simp [Instr.fill] at h; rw [h]
  | (i, v) :: parts, C, C', h => by
    simp only [Instr.fill] at h
    split at h
    · cases h
    · split at h
      · cases h
      · rw [fill_size parts _ _ h, ← Array.foldl_toList]
        exact foldl_sets_size _ _

/-- A row of zeros. -/
theorem zeros_ok {z : Value} {zs : List SV} (h : Cs g w z.cells zs) (n m : Nat) (hn : m = n * zs.length) : Cs g w ((Array.range m).map (z.cells[· % z.cells.size]!)) (rep n zs) := by
  subst hn
  refine ⟨by simp [rep_length], fun i hi hi' => ?_⟩
  obtain ⟨h1, h2⟩ := rep_get n zs i hi'
  rw [h2]
  simp only [Array.getElem_map, Array.getElem_range]
  have h3 : i % z.cells.size < z.cells.size := by rw [h.1]; exact h1
  rw [getElem!_pos z.cells _ h3]
  have := h.2 (i % z.cells.size) h3 (by rw [h.1]; exact h1)
  simpa only [h.1] using this

theorem eff_mkS (h : Rel g0 w0 g s a w) {t e : TypeId} {x y : Operand} {i : TypeInfo} {zs : List SV} {ax ay : Arg} (ho : o.op = .makeSlice t x y) (ht : P.underlying t = some (.slice e)) (hi : P.info? e = some i) (hz : zeroL P e = some zs) (hsz : i.size = zs.length)
    (hax : AOk g w s a x ax) (hay : AOk g w s a y ay) {r : SV} {wb : List (Nat × SV)} {st' : List Ob} (he : ev s.st (.mkS i.size i.bytes zs) [ax.raw s, ay.raw s] = some (r, wb, st')) :
    EffOk P g0 w0 (S.put { env := wback [ax, ay] s.env wb, st := st' } o.dst r) a w o := by
  obtain ⟨n, m, h1, h2⟩ : ∃ n m, ax.raw s = .int .i64 n ∧ ay.raw s = .int .i64 m := by
    cases hv : ax.raw s <;> cases hv' : ay.raw s <;> simp [ev, pv, hv, hv'] at he
    rename_i k n k' m
    cases k <;> cases k' <;> simp [ev, pv] at he
    exact ⟨n, m, rfl, rfl⟩
  rw [h1, h2] at he
  simp only [ev] at he
  split at he
  · rename_i hb
    obtain ⟨hb1, rfl, hb3, hb4⟩ := hb
    simp only [Option.some.injEq, Prod.mk.injEq] at he
    obtain ⟨rfl, rfl, rfl⟩ := he
    obtain ⟨ox, hvx⟩ := hax.V
    obtain ⟨oy, hvy⟩ := hay.V
    rw [h1] at hvx
    rw [h2] at hvy
    obtain ⟨i', z, hi', hzz⟩ := zero_some hz
    rw [hi] at hi'
    simp only [Option.some.injEq] at hi'
    subst hi'
    have hbb : (i.bytes : Int) * n ≤ 281474976710656 := by rw [Int.mul_comm]; omega
    have hr := run_make (P := P) w t e i z ht hi hzz .i64 .i64 n n hb1 (Int.le_refl _) hbb (by omega)
    have hz0 := zero_ok (g := g) (w := w) hi hzz hz
    have hC : Cs g w (madeCells z.cells (n.toNat * i.size)) (rep n.toNat zs) := zeros_ok hz0 n.toNat (n.toNat * i.size) (by rw [hsz])
    obtain ⟨g', hg'⟩ := h.new (dd := o.dst) (w' := w.alloc (.cells (madeCells z.cells (n.toNat * i.size)) e)) (E := e) (lo := 0) (hi := 0) (C := madeCells z.cells (n.toNat * i.size)) (xs := rep n.toNat zs) (n := n.toNat) (cap := n.toNat) (es := i.size) rfl rfl rfl rfl
      (by rw [rep_length, hsz]) (Nat.le_refl _) (by rw [size_madeCells]; exact Nat.le_refl _) (.inl (Nat.le_refl _)) (by simp only [maxLen]; omega) (fun j hj hj' => hC.2 j hj hj')
    refine ⟨_, _, g', .inl ?_, by simpa [wback] using hg'⟩
    simp only [execOp, ho, hvx.int_inv, hvy.int_inv, Sem.run_bind, hr]
    rfl
  · cases he

theorem eff_bsl (h : Rel g0 w0 g s a w) {t e : TypeId} {len : Nat} {parts : Array (Nat × Operand)} {i : TypeInfo} {zs : List SV} {as : List Arg} (ho : o.op = .buildSlice t len parts) (ht : P.underlying t = some (.slice e)) (hi : P.info? e = some i) (hz : zeroL P e = some zs) (hsz : i.size = zs.length) (h0 : 0 < i.size)
    (hbig : len * i.size ≤ 16777216) (hl : as.length = (parts.toList.map (·.2)).length) (hA : ∀ j (h : j < as.length) (h' : j < (parts.toList.map (·.2)).length), AOk g w s a ((parts.toList.map (·.2))[j]'h') (as[j]'h))
    {r : SV} {wb : List (Nat × SV)} {st' : List Ob} (he : ev s.st (.bsl i.size len zs (parts.toList.map (·.1))) (as.map (Arg.raw s)) = some (r, wb, st')) :
    EffOk P g0 w0 (S.put { env := wback as s.env wb, st := st' } o.dst r) a w o := by
  have he' : (if (parts.toList.map (·.1)).length = (as.map (Arg.raw s)).length ∧ (parts.toList.map (·.1)).all (· < len) then
      (fillV (rep len zs) (((parts.toList.map (·.1)).zip (as.map (Arg.raw s))).map fun (j, v) => (j * i.size, i.size, Sh.got v))).map fun xs => (SV.sl xs len (.excl i.size), pubs (as.map (Arg.raw s)), s.st) else none) = some (r, wb, st') := by
    cases as <;> exact he
  clear he
  split at he'
  · rename_i hc
    simp only [Option.map_eq_some_iff, Prod.mk.injEq] at he'
    obtain ⟨ys, hf, rfl, rfl, rfl⟩ := he'
    obtain ⟨g1, hR, hV⟩ := h.gots hl hA
    obtain ⟨i', z, hi', hzz⟩ := zero_some hz
    rw [hi] at hi'
    simp only [Option.some.injEq] at hi'
    subst hi'
    have hz0 := zero_ok (g := g1) (w := w) hi hzz hz
    have hZ : Cs g1 w ((Array.range (len * i.size)).map (z.cells[· % z.cells.size]!)) (rep len zs) := zeros_ok hz0 len _ (by rw [hsz])
    obtain ⟨C, hC, hCs⟩ := fill_ok (place := fun j => some (j * i.size, i.size)) (parts.toList.map fun p => (p.1, a.eval p.2)) _ _ _ ys (by simp at hl ⊢; omega) (fun j hj hj' => by
      simp only [List.length_map] at hj hl
      have := hV j (by omega) (by simpa using hj)
      simp only [List.getElem_map, List.getElem_zip]
      refine ⟨trivial, ?_⟩
      simpa using this) hZ hf
    have hys : ys.length = len * i.size := by
      have e1 := hCs.1
      have : C.size = ((Array.range (len * i.size)).map (z.cells[· % z.cells.size]!)).size := by
        exact fill_size _ _ _ hC
      simp at this
      omega
    have hlen : len ≤ 16777216 := Nat.le_trans (Nat.le_mul_of_pos_right _ h0) hbig
    obtain ⟨g', hg'⟩ := hR.new (dd := o.dst) (w' := w.alloc (.cells C e)) (E := e) (lo := 0) (hi := 0) (C := C) (xs := ys) (n := len) (cap := len) (es := i.size) rfl rfl rfl rfl
      hys (Nat.le_refl _) (by rw [hCs.1, hys]; exact Nat.le_refl _) (.inl (Nat.le_refl _)) (by simp only [maxLen]; omega) (fun j hj hj' => hCs.2 j hj hj')
    refine ⟨_, _, g', .inl ?_, hg'⟩
    have hbig' : ¬ (len * i.size > 2 ^ 24) := by omega
    have hsr : (sizeOf e).run P w = .ok i.size w := by simp [sizeOf, run_info hi]
    simp only [execOp, ho, Instr.buildSlice, Sem.run_bind, run_und ht, Result.andThen_ok, hsr]
    by_cases hl0 : len * i.size = 0
    · have hln : len = 0 := by
        rcases Nat.eq_zero_or_pos len with h' | h'
        · exact h'
        · have := Nat.mul_pos h' h0; omega
      subst hln
      have e0 : ∀ zc : Array Value, (Array.range (0 * i.size)).map (zc[· % zc.size]!) = #[] := by intro zc; apply Array.eq_empty_of_size_eq_zero; simp
      have e1 : ∀ f : Nat → Value, Array.map f (Array.range 0) = #[] := fun f => by apply Array.eq_empty_of_size_eq_zero; simp
      rw [e0] at hC
      simp [hC, newRow, e1]
    · simp [hbig', hl0, zeroValue, run_info hi, hzz, hC, newRow]
  · cases he'

end
end Go.Sh
