/-
  The shadow machine, part Row: a law's arguments that are rows of arrays, of structs, whose cells are plain.
-/
import Derived.Test.YtihhaeklacphbaaDoorShArg
import Derived.Laws.IdiomArrays
import Derived.ChangeArms
set_option linter.unusedSimpArgs false
set_option linter.unusedVariables false
namespace Go.Sh
open Go.ChangeShapes Go.WideShapes

theorem flatMap_at {α β : Type} {f : α → List β} {n : Nat} (hn : 0 < n) (hf : ∀ x, (f x).length = n) : ∀ (l : List α) (m : Nat), (l.flatMap f)[m]? = (l[m / n]?).bind fun z => (f z)[m % n]?
  | [], m => by simp
  | x :: l, m => by
    rw [List.flatMap_cons]
    by_cases h : m < n
    · rw [List.getElem?_append_left (by rw [hf]; exact h), Nat.div_eq_of_lt h, Nat.mod_eq_of_lt h]; rfl
    · obtain ⟨k, rfl⟩ : ∃ k, m = k + n := ⟨m - n, by omega⟩
      rw [List.getElem?_append_right (by rw [hf]; omega), hf, Nat.add_sub_cancel, flatMap_at hn hf l k, Nat.add_div_right _ hn, Nat.add_mod_right]; rfl
theorem flatMap_drop {α β : Type} {f : α → List β} {n : Nat} (hf : ∀ x, (f x).length = n) : ∀ (l : List α) (i : Nat) (z : α), l[i]? = some z → ((l.flatMap f).drop (i * n)).take n = f z
  | [], i, z, h => by simp at h
  | x :: l, 0, z, h => by
    simp at h; subst h
    rw [List.flatMap_cons, Nat.zero_mul, List.drop_zero, List.take_append_of_le_length (by rw [hf]; omega), List.take_of_length_le (by rw [hf]; omega)]
  | x :: l, i + 1, z, h => by
    have h' : l[i]? = some z := by simpa using h
    rw [List.flatMap_cons, Nat.succ_mul, Nat.add_comm, ← hf x, List.drop_append, hf x]
    rw [List.drop_of_length_le (by rw [hf]; omega), List.nil_append, Nat.add_sub_cancel_left]
    exact flatMap_drop hf l i z h'
theorem flatMap_len {α β : Type} {f : α → List β} {n : Nat} (hf : ∀ x, (f x).length = n) (l : List α) : (l.flatMap f).length = l.length * n := by
  induction l with
  | nil => simp
  | cons x l ih => rw [List.flatMap_cons, List.length_append, ih, hf, List.length_cons, Nat.succ_mul]; omega

theorem choose_list {α : Type} {n : Nat} {R : Nat → α → Prop} (h : ∀ i, i < n → ∃ z, R i z) : ∃ zs : List α, zs.length = n ∧ ∀ i z, zs[i]? = some z → R i z := by
  refine ⟨List.ofFn fun i : Fin n => Classical.choose (h i i.2), by simp, fun i z hz => ?_⟩
  rw [List.getElem?_ofFn] at hz
  split at hz
  · rename_i hi
    injection hz with hz
    rw [← hz]
    exact Classical.choose_spec (h i hi)
  · cases hz

section
variable {H : Type} {enc : TypeId × Value → H} {P : Program} {w : World} {base : Nat} {held : Bool} {r : Reach} {b0 : Nat} {t e : TypeId} {v : Value} {d : DataW H} {ps : List MemPlace}

theorem arg_rows {α : Type} {m : Nat} {cells : α → List SV} {vals : α → List Value} {dat : α → DataW H} {good : α → Prop} (ht : P.underlying t = some (.slice e)) (hc : P.cellsOf e = m) (hm : 0 < m)
    (hopen : ∀ n cs x, DataW.trod enc P w base (fun _ => true) held n e cs = some x → ∃ z, cs = vals z ∧ x.1 = dat z ∧ good z)
    (hlen : ∀ z, (cells z).length = m ∧ (vals z).length = m) (hV : ∀ (N : Nat) (z : α) (j : Nat) (a : Value) (b : SV), (vals z)[j]? = some a → (cells z)[j]? = some b → a.oneCell' = true ∧ V (g0 N) w none a b)
    (hval : Value.okWide P w r b0 t v) (hd : DataW.Trod enc P w base (fun _ => true) held t v d ps) :
    ∃ (zs : List α) (sv : SV) (N0 : Nat), ((sv = .nilS ∧ zs = []) ∨ sv = .sl (zs.flatMap cells) zs.length .ro) ∧ (∀ N, N0 ≤ N → V (g0 N) w none v sv) ∧ (∀ z ∈ zs, good z) ∧ zs.length ≤ maxLen ∧
      ((d = .nil ∧ zs = []) ∨ ∃ sp, d = .slice (zs.map dat) sp) := by
  obtain ⟨a, len, cap, rfl⟩ := okWide_slice ht hval
  obtain ⟨fuel, hf⟩ := hd
  rcases DataW.trod_slice ht hf with ⟨hcs, hx⟩ | ⟨a', len', cap', elems, rest, n, _, hcs, hx, hb, hl, hml, hel, hget, _, _⟩
  · simp [Value.cells] at hcs
    obtain ⟨rfl, rfl, rfl⟩ := hcs
    simp only [Prod.mk.injEq] at hx
    exact ⟨[], .nilS, 0, .inl ⟨rfl, rfl⟩, fun _ _ => .nilS _, by simp, by simp, .inl ⟨hx.1, rfl⟩⟩
  · simp [Value.cells] at hcs
    obtain ⟨rfl, rfl, rfl⟩ := hcs
    simp only [Prod.mk.injEq] at hx
    have hsp := slice_spot ht hval
    obtain ⟨b, off, spot⟩ := a'
    simp only at hsp
    subst hsp
    obtain ⟨zs, hzl, hz⟩ := choose_list (n := len) (R := fun i z => ∃ y, elems[i]? = some y ∧ y.1 = dat z ∧ good z ∧ ∀ j, j < m → w.cell? ⟨b, off + (i * m + j), none⟩ = (vals z)[j]?) (by
      intro i hi
      have h1 := hget i hi
      rw [hc] at h1
      have hiy : elems[i]? = some elems[i] := List.getElem?_eq_getElem (by omega)
      rw [hiy, Option.bind_eq_some_iff] at h1
      obtain ⟨cs, h2, h3⟩ := h1
      obtain ⟨z, rfl, h4, h5⟩ := hopen _ _ _ h3
      obtain ⟨_, _, h6⟩ := World.cells?_some h2
      refine ⟨z, _, hiy, h4, h5, fun j hj => ?_⟩
      have h7 := h6 j hj
      rw [add_none (a := ⟨b, off, none⟩) rfl, add_none rfl] at h7
      rw [← h7]
      simp only [Nat.add_assoc])
    have hcl : (zs.flatMap cells).length = len * m := by rw [flatMap_len (fun z => (hlen z).1), hzl]
    have hvl : (zs.flatMap vals).length = len * m := by rw [flatMap_len (fun z => (hlen z).2), hzl]
    have hgv : ∀ i, i < len * m → ∃ x y, (zs.flatMap vals)[i]? = some x ∧ (zs.flatMap cells)[i]? = some y ∧ w.cell? ⟨b, off + i, none⟩ = some x ∧ x.oneCell' = true ∧ ∀ N, V (g0 N) w none x y := by
      intro i hi
      have hq : i / m < len := Nat.div_lt_of_lt_mul (by rw [Nat.mul_comm]; exact hi)
      have hr : i % m < m := Nat.mod_lt _ hm
      have hzi : zs[i / m]? = some (zs[i / m]'(by omega)) := List.getElem?_eq_getElem (by omega)
      generalize zs[i / m]'(by omega) = z at hzi
      obtain ⟨y, _, _, _, hcell⟩ := hz _ _ hzi
      have hx1 : (vals z)[i % m]? = some ((vals z)[i % m]'(by rw [(hlen z).2]; exact hr)) := List.getElem?_eq_getElem _
      have hy1 : (cells z)[i % m]? = some ((cells z)[i % m]'(by rw [(hlen z).1]; exact hr)) := List.getElem?_eq_getElem _
      refine ⟨_, _, ?_, ?_, ?_, (hV 0 z _ _ _ hx1 hy1).1, fun N => (hV N z _ _ _ hx1 hy1).2⟩
      · rw [flatMap_at hm (fun z => (hlen z).2), hzi]; exact hx1
      · rw [flatMap_at hm (fun z => (hlen z).1), hzi]; exact hy1
      · have := hcell _ hr
        rw [hx1, Nat.mul_comm, Nat.div_add_mod] at this
        exact this
    have hmap : elems.map (·.1) = zs.map dat := by
      apply List.ext_getElem?
      intro i
      rw [List.getElem?_map, List.getElem?_map]
      by_cases hi : i < len
      · have hzi : zs[i]? = some (zs[i]'(by omega)) := List.getElem?_eq_getElem (by omega)
        obtain ⟨y, h1, h2, _⟩ := hz _ _ hzi
        rw [h1, hzi]
        simp [h2]
      · rw [List.getElem?_eq_none (by omega), List.getElem?_eq_none (by omega)]; rfl
    refine ⟨zs, .sl (zs.flatMap cells) zs.length .ro, off + len * m, .inr rfl, fun N hN => ?_, fun z hzm => ?_, by omega, .inr ⟨_, by rw [← hmap]; exact hx.1⟩⟩
    · rw [hzl]
      refine .sl none b off len cap _ .ro (fun i => (zs.flatMap vals).getD i (.bool false)) hl (fun i hi => ?_) (fun i hi => ?_) (fun i hi => ?_) (.inr (by show off + (zs.flatMap cells).length ≤ N; omega))
      all_goals
        rw [hcl] at hi
        obtain ⟨x, y, h1, h2, h3, h4, h5⟩ := hgv i hi
        rw [List.getD_eq_getElem?_getD, h1]
      · exact h3
      · exact h4
      · have : (zs.flatMap cells)[i]'(by omega) = y := by
          have := h2
          rw [List.getElem?_eq_getElem (by omega)] at this
          exact Option.some.inj this
        rw [this]
        exact h5 N
    · obtain ⟨i, hi, rfl⟩ := List.getElem_of_mem hzm
      obtain ⟨_, _, _, h, _⟩ := hz i _ (List.getElem?_eq_getElem hi)
      exact h

def arr3 (k : IntKind) (z : Int × Int × Int) : List SV := [.int k z.1, .int k z.2.1, .int k z.2.2]
theorem arg_arrays {i : TypeId} {k : IntKind} (ht : P.underlying t = some (.slice e)) (he : P.underlying e = some (.array 3 i)) (hi : P.underlying i = some (.int k)) (hc : P.cellsOf e = 3) (hci : P.cellsOf i = 1)
    (hval : Value.okWide P w r b0 t v) (hd : DataW.Trod enc P w base (fun _ => true) held t v d ps) :
    ∃ (zs : List (Int × Int × Int)) (sv : SV) (N0 : Nat), ((sv = .nilS ∧ zs = []) ∨ sv = .sl (zs.flatMap (arr3 k)) zs.length .ro) ∧ (∀ N, N0 ≤ N → V (g0 N) w none v sv) ∧
      (∀ z ∈ zs, (Lit.int k z.1).wf = true ∧ (Lit.int k z.2.1).wf = true ∧ (Lit.int k z.2.2).wf = true) ∧ zs.length ≤ maxLen ∧
      ((d = .nil ∧ zs = []) ∨ ∃ sp, d = .slice (zs.map fun z => .agg [.lit (.int k z.1), .lit (.int k z.2.1), .lit (.int k z.2.2)]) sp) := by
  refine arg_rows (vals := fun z => [.int k z.1, .int k z.2.1, .int k z.2.2]) ht hc (by omega) ?_ (fun z => ⟨rfl, rfl⟩) ?_ hval hd
  · intro n cs x hx
    have hcs : ∃ c0 c1 c2, cs = [c0, c1, c2] := by
      obtain ⟨xs, m, _, _, hl, _⟩ := DataW.trod_array he hx
      rw [hc] at hl
      match cs, hl with
      | [a, b, c], _ => exact ⟨_, _, _, rfl⟩
    obtain ⟨c0, c1, c2, rfl⟩ := hcs
    obtain ⟨y0, y1, y2, m, rfl, h0, h1, h2⟩ := trod_array3 he hci hx
    obtain ⟨a0, e0, rfl, w0⟩ := DataW.trod_int hi h0
    obtain ⟨a1, e1, rfl, w1⟩ := DataW.trod_int hi h1
    obtain ⟨a2, e2, rfl, w2⟩ := DataW.trod_int hi h2
    simp only [List.cons.injEq, and_true] at e0 e1 e2
    subst e0 e1 e2
    exact ⟨(a0, a1, a2), rfl, rfl, w0, w1, w2⟩
  · intro N z j a b ha hb
    match j with
    | 0 => simp at ha hb; subst ha; simp [arr3] at hb; subst hb; exact ⟨rfl, .int _ _ _⟩
    | 1 => simp at ha hb; subst ha; simp [arr3] at hb; subst hb; exact ⟨rfl, .int _ _ _⟩
    | 2 => simp at ha hb; subst ha; simp [arr3] at hb; subst hb; exact ⟨rfl, .int _ _ _⟩
    | j + 3 => simp at ha
end
end Go.Sh
