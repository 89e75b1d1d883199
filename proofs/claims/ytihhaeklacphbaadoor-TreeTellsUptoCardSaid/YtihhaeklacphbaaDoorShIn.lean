/-
  The shadow machine, part In: a law's arguments of any plain type, read as pure values.
-/
import Derived.Test.YtihhaeklacphbaaDoorShRow
import Derived.Test.YtihhaeklacphbaaDoorShTl
import Derived.Test.YtihhaeklacphbaaDoorBulk
import Derived.ChangeArms
import Derived.OpenShut
set_option linter.unusedSimpArgs false
set_option linter.unusedVariables false
namespace Go.Sh
open Go.ChangeShapes Go.WideShapes Go.Proofs.YtihhaeklacphbaaDoor

/-- Cells of the model, and what they are read as, where nobody owns anything. -/
def CsL (N : Nat) (W : World) (cs : List Value) (xs : List SV) : Prop := ∀ (j : Nat) (a : Value) (b : SV), cs[j]? = some a → xs[j]? = some b → a.oneCell' = true ∧ V (g0 N) W none a b

/-- A type's values are read. -/
def Opn (P : Program) (t : TypeId) (m : Nat) {α : Type} (cells : α → List SV) (good : α → Prop) (bulk : α → Nat) : Prop :=
  P.cellsOf t = m ∧ ∀ {H : Type} (enc : TypeId × Value → H) (W : World) (n : Nat) (cs : List Value) (x : DataW H × List MemPlace), DataW.trod enc P W 0 (fun _ => true) true n t cs = some x →
    ∃ z : α, cs.length = m ∧ (cells z).length = m ∧ good z ∧ bulk z + 1 ≤ Rows.uptoBulk x.1 ∧ ∃ N0, ∀ N, N0 ≤ N → CsL N W cs (cells z)

theorem CsL.one {N : Nat} {W : World} {v : Value} {x : SV} (h1 : v.oneCell' = true) (h2 : V (g0 N) W none v x) : CsL N W [v] [x] := by
  intro j a b ha hb
  match j with
  | 0 => simp at ha hb; subst ha hb; exact ⟨h1, h2⟩
  | j + 1 => simp at ha

theorem bound_list {α : Type} {Q : Nat → α → Prop} : ∀ (l : List α), (∀ z ∈ l, ∃ N0, ∀ N, N0 ≤ N → Q N z) → ∃ N0, ∀ N, N0 ≤ N → ∀ z ∈ l, Q N z
  | [], _ => ⟨0, fun _ _ z hz => by cases hz⟩
  | x :: l, h => by
    obtain ⟨a, ha⟩ := h x List.mem_cons_self
    obtain ⟨b, hb⟩ := bound_list l fun z hz => h z (List.mem_cons_of_mem _ hz)
    refine ⟨a + b, fun N hN z hz => ?_⟩
    rcases List.mem_cons.1 hz with rfl | hz
    · exact ha N (by omega)
    · exact hb N (by omega) z hz
theorem bound_lt {Q : Nat → Nat → Prop} (n : Nat) (h : ∀ i, i < n → ∃ N0, ∀ N, N0 ≤ N → Q N i) : ∃ N0, ∀ N, N0 ≤ N → ∀ i, i < n → Q N i := by
  obtain ⟨N0, h0⟩ := bound_list (Q := Q) (List.range n) fun z hz => h z (List.mem_range.1 hz)
  exact ⟨N0, fun N hN i hi => h0 N hN i (List.mem_range.2 hi)⟩

theorem spot_of_cells {W : World} {a : Addr} {m : Nat} {cs : List Value} (h : W.cells? 0 a m = some cs) (hm : 0 < m) : a.spot = none := by
  obtain ⟨_, h5, h6⟩ := World.cells?_some h
  have h7 := h6 0 hm
  have e : a.add 0 = a := by simp [Addr.add]
  rw [List.getElem?_eq_getElem (by omega), e] at h7
  unfold World.cell? at h7
  split at h7
  · split at h7
    · cases h7
    · rename_i hn
      simpa using hn
  · cases h7

section
variable {P : Program} {t e : TypeId}

theorem Opn.int {k : IntKind} (ht : P.underlying t = some (.int k)) (hc : P.cellsOf t = 1) : Opn P t 1 (fun z : Int => [.int k z]) (fun z => (Lit.int k z).wf = true) (fun _ => 0) := by
  refine ⟨hc, fun enc W n cs x h => ?_⟩
  obtain ⟨z, rfl, rfl, hw⟩ := DataW.trod_int ht h
  exact ⟨z, rfl, rfl, hw, by simp [Rows.uptoBulk], 0, fun N _ => .one rfl (.int _ _ _)⟩
theorem Opn.bool (ht : P.underlying t = some .bool) (hc : P.cellsOf t = 1) : Opn P t 1 (fun z : Bool => [.bool z]) (fun _ => True) (fun _ => 0) := by
  refine ⟨hc, fun enc W n cs x h => ?_⟩
  obtain ⟨z, rfl, rfl⟩ := DataW.trod_bool ht h
  exact ⟨z, rfl, rfl, trivial, by simp [Rows.uptoBulk], 0, fun N _ => .one rfl (.bool _ _)⟩
theorem Opn.str (ht : P.underlying t = some .string) (hc : P.cellsOf t = 1) : Opn P t 1 (fun z : List UInt8 => [.str z]) (fun _ => True) (fun z => z.length) := by
  refine ⟨hc, fun enc W n cs x h => ?_⟩
  obtain ⟨z, rfl, rfl, _⟩ := DataW.trod_string ht h
  exact ⟨z.data.toList, rfl, rfl, trivial, by simp [Rows.uptoBulk], 0, fun N _ => .one rfl (.str _ _)⟩

/-- The same, in other words. -/
theorem Opn.as {m : Nat} {α β : Type} {cells : α → List SV} {good : α → Prop} {bulk : α → Nat} {cells' : β → List SV} {good' : β → Prop} {bulk' : β → Nat} (h : Opn P t m cells good bulk) (f : α → β)
    (h1 : ∀ z, cells' (f z) = cells z) (h2 : ∀ z, good z → good' (f z)) (h3 : ∀ z, good z → bulk' (f z) ≤ bulk z) : Opn P t m cells' good' bulk' := by
  refine ⟨h.1, fun enc W n cs x hx => ?_⟩
  obtain ⟨z, a1, a2, a3, a4, N0, a5⟩ := h.2 enc W n cs x hx
  exact ⟨f z, a1, by rw [h1]; exact a2, h2 z a3, Nat.le_trans (Nat.succ_le_succ (h3 z a3)) a4, N0, fun N hN => by rw [h1]; exact a5 N hN⟩

theorem upto_sum {H : Type} {α : Type} {bulk : α → Nat} : ∀ (zs : List α) (es : List (DataW H × List MemPlace)), zs.length = es.length → (∀ (i : Nat) (z : α), zs[i]? = some z → ∃ y, es[i]? = some y ∧ bulk z + 1 ≤ Rows.uptoBulk y.1) →
    (zs.map bulk).sum + zs.length ≤ Rows.uptoBulkAll (es.map (·.1))
  | [], es, _, _ => by simp
  | z :: zs, [], hl, _ => by simp at hl
  | z :: zs, y :: es, hl, hh => by
    obtain ⟨y', hy, hb⟩ := hh 0 z rfl
    simp at hy
    subst hy
    have := upto_sum (bulk := bulk) zs es (by simpa using hl) (fun i z hi => by simpa using hh (i + 1) z (by simpa using hi))
    simp only [List.map_cons, List.sum_cons, Rows.uptoBulkAll, List.length_cons]
    omega

/-- A row: nil, or shared. -/
theorem Opn.slice {m : Nat} {α : Type} {cells : α → List SV} {good : α → Prop} {bulk : α → Nat} (he : Opn P e m cells good bulk) (ht : P.underlying t = some (.slice e)) (hc : P.cellsOf t = 1) (hm : 0 < m) :
    Opn P t 1 (fun z : SV × List α => [z.1]) (fun z => rdR cells z.1 z.2 ∧ (∀ y ∈ z.2, good y ∧ (cells y).length = m) ∧ z.2.length ≤ maxLen) (fun z => (z.2.map bulk).sum + z.2.length) := by
  refine ⟨hc, fun {H} enc W n cs x h => ?_⟩
  rcases DataW.trod_slice ht h with ⟨rfl, rfl⟩ | ⟨a, len, cap, elems, rest, n', rfl, rfl, rfl, hb, hl, hml, hel, hget, hrest, _⟩
  · exact ⟨(.nilS, []), rfl, rfl, ⟨.inl ⟨rfl, rfl⟩, by simp, by simp⟩, by simp [Rows.uptoBulk], 0, fun N _ => .one rfl (.nilS _)⟩
  · have hsp : a.spot = none ∨ (len = 0 ∧ cap = 0) := by
      have e : a.add (0 * P.cellsOf e) = a := by simp [Addr.add]
      rcases Nat.eq_zero_or_pos len with h0 | h0
      · rcases Nat.eq_zero_or_pos cap with h1 | h1
        · exact .inr ⟨h0, h1⟩
        · left
          obtain ⟨h2, h3⟩ := hrest rfl
          have h4 := h3 0 (by omega)
          rw [List.getElem?_eq_getElem (by omega), Option.bind_eq_some_iff] at h4
          obtain ⟨cs, h5, _⟩ := h4
          rw [h0, e, he.1] at h5
          exact spot_of_cells h5 hm
      · left
        have h1 := hget 0 h0
        rw [List.getElem?_eq_getElem (by omega), Option.bind_eq_some_iff] at h1
        obtain ⟨cs, h2, h3⟩ := h1
        rw [e, he.1] at h2
        exact spot_of_cells h2 hm
    obtain ⟨zs, hzl, hz⟩ := choose_list (n := len) (R := fun i z => ∃ y, elems[i]? = some y ∧ good z ∧ (cells z).length = m ∧ bulk z + 1 ≤ Rows.uptoBulk y.1 ∧
        ∃ vs : List Value, vs.length = m ∧ (a.spot = none → ∀ j, j < m → W.cell? ⟨a.block, a.off + (i * m + j), none⟩ = vs[j]?) ∧ ∃ N0, ∀ N, N0 ≤ N → CsL N W vs (cells z)) (by
      intro i hi
      have h1 := hget i hi
      rw [he.1] at h1
      have hiy : elems[i]? = some elems[i] := List.getElem?_eq_getElem (by omega)
      rw [hiy, Option.bind_eq_some_iff] at h1
      obtain ⟨cs, h2, h3⟩ := h1
      obtain ⟨z, a1, a2, a3, a4, N0, a5⟩ := he.2 enc W n' cs _ h3
      obtain ⟨_, _, h6⟩ := World.cells?_some h2
      refine ⟨z, _, hiy, a3, a2, a4, cs, a1, fun hsp j hj => ?_, N0, a5⟩
      rw [← h6 j hj, add_none (a := a) hsp, add_none rfl]
      simp only [Nat.add_assoc])
    have hbulk : (zs.map bulk).sum + zs.length + 1 ≤ Rows.uptoBulk (DataW.slice (elems.map (·.1)) (rest.map (·.1))) := by
      have := upto_sum (bulk := bulk) zs elems (by omega) fun i z hi => by
        obtain ⟨y, h1, _, _, h2, _⟩ := hz i z hi
        exact ⟨y, h1, h2⟩
      simp only [Rows.uptoBulk]
      omega
    have hgood : ∀ y ∈ zs, good y ∧ (cells y).length = m := fun y hy => by
      obtain ⟨i, hi, rfl⟩ := List.getElem_of_mem hy
      obtain ⟨_, _, h1, h2, _⟩ := hz i _ (List.getElem?_eq_getElem hi)
      exact ⟨h1, h2⟩
    refine ⟨(.sl (zs.flatMap cells) zs.length .ro, zs), rfl, rfl, ⟨.inr rfl, hgood, by simp only; omega⟩, hbulk, ?_⟩
    rcases hsp with hsp | ⟨rfl, rfl⟩
    · obtain ⟨b, off, spot⟩ := a
      simp only at hsp
      subst hsp
      have hcl : (zs.flatMap cells).length = len * m := by
        rw [← hzl]
        clear hz hbulk hget hzl
        induction zs with
        | nil => simp
        | cons z zs ih =>
          rw [List.flatMap_cons, List.length_append, ih (fun y hy => hgood y (List.mem_cons_of_mem _ hy)), (hgood z List.mem_cons_self).2, List.length_cons, Nat.succ_mul]; omega
      have hat : ∀ i j, i < len → j < m → (zs.flatMap cells)[i * m + j]? = (zs[i]?).bind fun z => (cells z)[j]? := by
        intro i j hi hj
        have key : ∀ (zs : List α), (∀ y ∈ zs, (cells y).length = m) → ∀ i, (zs.flatMap cells)[i * m + j]? = (zs[i]?).bind fun z => (cells z)[j]? := by
          intro zs
          induction zs with
          | nil => intro _ i; simp
          | cons z zs ih =>
            intro h i
            rw [List.flatMap_cons]
            cases i with
            | zero => rw [List.getElem?_append_left (by rw [h z List.mem_cons_self]; omega)]; simp
            | succ i =>
              rw [List.getElem?_append_right (by rw [h z List.mem_cons_self, Nat.succ_mul]; omega), h z List.mem_cons_self, show (i + 1) * m + j - m = i * m + j by rw [Nat.succ_mul]; omega, ih (fun y hy => h y (List.mem_cons_of_mem _ hy))]
              simp
        exact key zs (fun y hy => (hgood y hy).2) i
      obtain ⟨N1, hN1⟩ := bound_lt (Q := fun N i => ∀ j, j < m → ∃ v x, W.cell? ⟨b, off + (i * m + j), none⟩ = some v ∧ (zs.flatMap cells)[i * m + j]? = some x ∧ v.oneCell' = true ∧ V (g0 N) W none v x) len (by
        intro i hi
        obtain ⟨_, _, _, h1, _, vs, h2, h3, N0, h4⟩ := hz i _ (List.getElem?_eq_getElem (by omega))
        replace h3 := h3 rfl
        refine ⟨N0, fun N hN j hj => ?_⟩
        have hv : vs[j]? = some vs[j] := List.getElem?_eq_getElem (by omega)
        have hx : (cells (zs[i]'(by omega)))[j]? = some ((cells (zs[i]'(by omega)))[j]'(by omega)) := List.getElem?_eq_getElem (by omega)
        obtain ⟨h5, h6⟩ := h4 N hN j _ _ hv hx
        refine ⟨_, _, (h3 j hj).trans hv, ?_, h5, h6⟩
        rw [hat i j hi hj, List.getElem?_eq_getElem (by omega)]
        exact hx)
      refine ⟨N1 + off + len * m, fun N hN => .one rfl ?_⟩
      have hgv : ∀ i, i < len * m → ∃ v x, W.cell? ⟨b, off + i, none⟩ = some v ∧ (zs.flatMap cells)[i]? = some x ∧ v.oneCell' = true ∧ V (g0 N) W none v x := by
        intro i hi
        have hq : i / m < len := Nat.div_lt_of_lt_mul (by rw [Nat.mul_comm]; exact hi)
        have := hN1 N (by omega) (i / m) hq (i % m) (Nat.mod_lt _ hm)
        rw [Nat.mul_comm, Nat.div_add_mod] at this
        exact this
      rw [hzl]
      refine .sl none b off len cap _ .ro (fun i => (W.cell? ⟨b, off + i, none⟩).getD (.bool false)) hl (fun i hi => ?_) (fun i hi => ?_) (fun i hi => ?_) (.inr (by show off + (zs.flatMap cells).length ≤ N; omega))
      all_goals
        obtain ⟨v, x, h1, h2, h3, h4⟩ := hgv i (by omega)
        simp only [h1, Option.getD_some]
      · exact h3
      · rw [List.getElem?_eq_getElem hi] at h2
        cases h2
        exact h4
    · obtain rfl := List.eq_nil_of_length_eq_zero hzl
      exact ⟨0, fun N _ => .one rfl (.slz _ _ _ (.inl rfl))⟩

/-- Fields, one behind the other. -/
def OpnF (P : Program) (fs : List Field) (o m : Nat) {α : Type} (cells : α → List SV) (good : α → Prop) (bulk : α → Nat) : Prop :=
  ∀ (H : Type) (enc : TypeId × Value → H) (W : World) (n : Nat) (cs : List Value) (xs : List (DataW H × List MemPlace)), o + m ≤ cs.length → xs.length = fs.length →
    (∀ (i : Nat) (f : Field), fs[i]? = some f → DataW.trod enc P W 0 (fun _ => true) true n f.type ((cs.drop f.offset).take (P.cellsOf f.type)) = xs[i]?) →
    ∃ z : α, (cells z).length = m ∧ good z ∧ bulk z ≤ Rows.uptoBulkAll (xs.map (·.1)) ∧ ∃ N0, ∀ N, N0 ≤ N → CsL N W ((cs.drop o).take m) (cells z)

theorem CsL.app {N : Nat} {W : World} {a b : List Value} {x y : List SV} (h : a.length = x.length) (h1 : CsL N W a x) (h2 : CsL N W b y) : CsL N W (a ++ b) (x ++ y) := by
  intro j u v hu hv
  by_cases hj : j < a.length
  · rw [List.getElem?_append_left hj] at hu
    rw [List.getElem?_append_left (by omega)] at hv
    exact h1 j u v hu hv
  · rw [List.getElem?_append_right (by omega)] at hu
    rw [List.getElem?_append_right (by omega), ← h] at hv
    exact h2 _ u v hu hv

theorem OpnF.nil (o : Nat) : OpnF P [] o 0 (fun _ : Unit => []) (fun _ => True) (fun _ => 0) := by
  intro H enc W n cs xs _ _ _
  exact ⟨(), rfl, trivial, Nat.zero_le _, 0, fun N _ j a b ha hb => by simp at hb⟩
theorem OpnF.cons {f : Field} {fs : List Field} {o m1 m2 : Nat} {α β : Type} {c1 : α → List SV} {g1 : α → Prop} {b1 : α → Nat} {c2 : β → List SV} {g2 : β → Prop} {b2 : β → Nat} (h1 : Opn P f.type m1 c1 g1 b1) (ho : f.offset = o) (h2 : OpnF P fs (o + m1) m2 c2 g2 b2) :
    OpnF P (f :: fs) o (m1 + m2) (fun z : α × β => c1 z.1 ++ c2 z.2) (fun z => g1 z.1 ∧ g2 z.2) (fun z => b1 z.1 + b2 z.2) := by
  intro H enc W n cs xs hcl hl hf
  cases xs with
  | nil => simp at hl
  | cons x xs =>
    have h0 := hf 0 f rfl
    simp only [List.getElem?_cons_zero, ho, h1.1] at h0
    obtain ⟨z1, a1, a2, a3, a4, N1, a5⟩ := h1.2 enc W n _ _ h0
    obtain ⟨z2, e1, e2, e3, N2, e4⟩ := h2 H enc W n cs xs (by omega) (by simpa using hl) (fun i f' hi => by simpa using hf (i + 1) f' (by simpa using hi))
    refine ⟨(z1, z2), by simp [a2, e1], ⟨a3, e2⟩, ?_, N1 + N2, fun N hN => ?_⟩
    · simp only [List.map_cons, Rows.uptoBulkAll]; omega
    · have : (cs.drop o).take (m1 + m2) = (cs.drop o).take m1 ++ (cs.drop (o + m1)).take m2 := by
        rw [List.take_add, List.drop_drop]
      rw [this]
      exact .app (by rw [a1, a2]) (a5 N (by omega)) (e4 N (by omega))
theorem Opn.struct {fs : Array Field} {m : Nat} {α : Type} {cells : α → List SV} {good : α → Prop} {bulk : α → Nat} (ht : P.underlying t = some (.struct fs)) (hc : P.cellsOf t = m) (h : OpnF P fs.toList 0 m cells good bulk) : Opn P t m cells good bulk := by
  refine ⟨hc, fun {H} enc W n cs x hx => ?_⟩
  obtain ⟨xs, n', rfl, rfl, hl, hlen, hf⟩ := DataW.trod_struct ht hx
  rw [hc] at hl
  obtain ⟨z, h1, h2, h3, N0, h4⟩ := h H enc W n' cs xs (by omega) (by simpa using hlen) (fun i f hi => hf i f (by simpa using hi))
  refine ⟨z, hl, h1, h2, by simp only [Rows.uptoBulk]; omega, N0, fun N hN => ?_⟩
  have := h4 N hN
  rwa [List.drop_zero, List.take_of_length_le (by omega)] at this

/-- Three numbers. -/
theorem Opn.array3 {k : IntKind} (ht : P.underlying t = some (.array 3 e)) (he : P.underlying e = some (.int k)) (hc : P.cellsOf t = 3) (hce : P.cellsOf e = 1) :
    Opn P t 3 (arr3 k) (fun _ => True) (fun _ => 0) := by
  refine ⟨hc, fun enc W n cs x hx => ?_⟩
  have hcs : ∃ c0 c1 c2, cs = [c0, c1, c2] := by
    obtain ⟨xs, m, _, _, hl, _⟩ := DataW.trod_array ht hx
    rw [hc] at hl
    match cs, hl with
    | [a, b, c], _ => exact ⟨_, _, _, rfl⟩
  obtain ⟨c0, c1, c2, rfl⟩ := hcs
  obtain ⟨y0, y1, y2, m, rfl, h0, h1, h2⟩ := trod_array3 ht hce hx
  obtain ⟨a0, e0, rfl, w0⟩ := DataW.trod_int he h0
  obtain ⟨a1, e1, rfl, w1⟩ := DataW.trod_int he h1
  obtain ⟨a2, e2, rfl, w2⟩ := DataW.trod_int he h2
  simp only [List.cons.injEq, and_true] at e0 e1 e2
  subst e0 e1 e2
  exact ⟨(a0, a1, a2), rfl, rfl, trivial, by simp [Rows.uptoBulk, Rows.uptoBulkAll], 0, fun N _ => CsL.app (a := [_]) (x := [_]) rfl (.one rfl (.int _ _ _)) (CsL.app (a := [_]) (x := [_]) rfl (.one rfl (.int _ _ _)) (.one rfl (.int _ _ _)))⟩

variable {H : Type} {enc : TypeId × Value → H} {w : World} {r : Reach} {b0 : Nat} {v : Value} {d : DataW H} {ps : List MemPlace}

/-- A slice as an argument. -/
theorem arg_slice {α : Type} {cells : SV × α → List SV} {good : SV × α → Prop} {bulk : SV × α → Nat} (h : Opn P t 1 cells good bulk) (hcells : ∀ z, cells z = [z.1]) (ht : P.underlying t = some (.slice e)) (hval : Value.okWide P w r b0 t v) (hd : DataW.Trod enc P w 0 (fun _ => true) true t v d ps) :
    ∃ (z : SV × α) (N0 : Nat), good z ∧ bulk z + 1 ≤ Rows.uptoBulk d ∧ ∀ N, N0 ≤ N → V (g0 N) w none v z.1 := by
  obtain ⟨a, len, cap, rfl⟩ := okWide_slice ht hval
  obtain ⟨n, hn⟩ := hd
  obtain ⟨z, _, _, h1, h2, N0, h3⟩ := h.2 enc w n _ _ hn
  refine ⟨z, N0, h1, h2, fun N hN => ?_⟩
  have := h3 N hN 0 (.slice a len cap) z.1 (by simp [Value.cells]) (by rw [hcells]; rfl)
  exact this.2
/-- A struct, or an array, as an argument. -/
theorem arg_agg {m : Nat} {α : Type} {cells : α → List SV} {good : α → Prop} {bulk : α → Nat} (h : Opn P t m cells good bulk) (ht : (∃ fs, P.underlying t = some (.struct fs)) ∨ ∃ n e, P.underlying t = some (.array n e)) (hval : Value.okWide P w r b0 t v) (hd : DataW.Trod enc P w 0 (fun _ => true) true t v d ps) :
    ∃ (z : α) (N0 : Nat), good z ∧ bulk z + 1 ≤ Rows.uptoBulk d ∧ ∀ N, N0 ≤ N → V (g0 N) w none v (.agg (cells z)) := by
  have hv : ∃ cs, v = .agg cs := by
    unfold Value.okWide at hval
    rcases ht with ⟨fs, ht⟩ | ⟨k, e, ht⟩ <;> (rw [ht] at hval; obtain ⟨cs, rfl, _⟩ := hval; exact ⟨cs, rfl⟩)
  obtain ⟨cs, rfl⟩ := hv
  obtain ⟨n, hn⟩ := hd
  obtain ⟨z, k1, k2, h1, h2, N0, h3⟩ := h.2 enc w n _ _ hn
  change cs.toList.length = m at k1
  have hcl : cs.size = (cells z).length := by rw [k2, ← k1]; simp
  refine ⟨z, N0, h1, h2, fun N hN => .agg none cs (cells z) hcl (fun i hi => ?_) (fun i hi hi' => ?_)⟩
  · exact (h3 N hN i cs[i] ((cells z)[i]'(by omega)) (by simp [Value.cells, hi]) (List.getElem?_eq_getElem (by omega))).1
  · exact (h3 N hN i cs[i] (cells z)[i] (by simp [Value.cells, hi]) (List.getElem?_eq_getElem hi')).2
end
end Go.Sh
