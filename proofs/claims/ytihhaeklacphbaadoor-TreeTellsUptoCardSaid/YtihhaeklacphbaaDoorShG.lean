/-
  The shadow machine, part G: bytes to a string, function values, structs held against each other; what is published; the state's steps.
-/
import Derived.Test.YtihhaeklacphbaaDoorShF
import Derived.Laws.BytesString
import Derived.Laws.OwnMore
set_option linter.unusedSimpArgs false
set_option linter.unusedVariables false
namespace Go.Sh

section
variable {P : Program} {g : Gh} {w : World}

theorem bytesOf_ok {l : List SV} {bs : List UInt8} (h : bytesOf l = some bs) : ∃ ns : List Int, l = ns.map (SV.int .u8) ∧ bs = ns.map fun n => UInt8.ofNat n.toNat := by
  unfold bytesOf at h
  induction l generalizing bs with
  | nil => simp at h; subst h; exact ⟨[], rfl, rfl⟩
  | cons x l ih =>
    simp only [List.mapM_cons, Option.bind_eq_bind, Option.bind_eq_some_iff, Option.pure_def, Option.some.injEq] at h
    obtain ⟨b, hb, bs', h', rfl⟩ := h
    obtain ⟨ns, rfl, rfl⟩ := ih h'
    split at hb
    · rename_i n
      simp only [Option.some.injEq] at hb
      subst hb
      exact ⟨n :: ns, rfl, rfl⟩
    · cases hb

theorem push_data (s : ByteArray) (b : UInt8) : (s.push b).data.toList = s.data.toList ++ [b] := by
  show (s.data.push b).toList = _
  simp

theorem foldl_push (ns : List Int) : ∀ s : ByteArray, (ns.foldl (fun (r : ByteArray) n => r.push (UInt8.ofNat n.toNat)) s).data.toList = s.data.toList ++ ns.map fun n => UInt8.ofNat n.toNat := by
  induction ns with
  | nil => intro s; simp
  | cons n ns ih => intro s; rw [List.foldl_cons, ih, push_data]; simp

theorem pv_b2s {a : Act} {o : Oper} {src dst e : TypeId} {x : Operand} {sx r : SV} {st : List Ob} {o1 : Option Owner} (ho : o.op = .convert src dst x) (hs : P.underlying src = some (.slice e)) (he : P.underlying e = some (.int .u8)) (hd : P.underlying dst = some .string)
    (hI : Inv g w st) (hx : V g w o1 (a.eval x) sx) (h : pv st .b2s [sx] = some r) : PvOk P g w a o r := by
  generalize hv : a.eval x = v at hx
  cases hx <;> simp only [pv, Option.some.injEq, reduceCtorEq] at h
  · subst h
    refine ⟨.string .empty, ?_, .mk_str rfl⟩
    simp only [execOp, ho, hv, Sem.run_bind, run_convert_bytes_string w src dst e _ _ _ hs he hd]
    simp [Conv.bytesToString]
  · rename_i b off len cap xs fl f hlen hcell hone hx hf
    split at h
    · rename_i hl
      simp only [Option.map_eq_some_iff] at h
      obtain ⟨bs, h1, rfl⟩ := h
      obtain ⟨ns, rfl, rfl⟩ := bytesOf_ok h1
      simp only [List.length_map] at hl hcell hx
      subst hl
      have hlo : (loadCells ⟨b, off, none⟩ ns.length).run P w = .ok (ns.map (Value.int .u8)).toArray w := by
        refine run_loadCells_list (P := P) w ⟨b, off, none⟩ (ns.map (Value.int .u8)) (fun j v hj => ?_) |> fun h => by simpa using h
        rw [addr_add]
        rw [List.getElem?_map] at hj
        simp only [Option.map_eq_some_iff] at hj
        obtain ⟨n, hn, rfl⟩ := hj
        obtain ⟨h1, rfl⟩ := List.getElem?_eq_some_iff.1 hn
        rw [hcell j h1]
        have := hx j h1
        simp only [List.getElem_map] at this
        rw [this.int_inv]
      refine ⟨_, ?_, V.mk_str (foldl_push ns .empty)⟩
      simp only [execOp, ho, hv, Sem.run_bind, run_convert_bytes_string w src dst e _ _ _ hs he hd, run_bytesToString w _ _ cap ns hlo]
      simp
    · cases h
  · rename_i id off len b cap hlen hid
    simp only [Option.bind_eq_some_iff, Option.map_eq_some_iff] at h
    obtain ⟨l, hl, bs, h1, rfl⟩ := h
    obtain ⟨hll, hcc⟩ := ob_cells hI hid hl
    obtain ⟨ns, rfl, rfl⟩ := bytesOf_ok h1
    simp only [List.length_map] at hll hcc
    subst hll
    have hlo : (loadCells ⟨b, off, none⟩ ns.length).run P w = .ok (ns.map (Value.int .u8)).toArray w := by
      refine run_loadCells_list (P := P) w ⟨b, off, none⟩ (ns.map (Value.int .u8)) (fun j v hj => ?_) |> fun h => by simpa using h
      rw [addr_add]
      rw [List.getElem?_map] at hj
      simp only [Option.map_eq_some_iff] at hj
      obtain ⟨n, hn, rfl⟩ := hj
      obtain ⟨h1, rfl⟩ := List.getElem?_eq_some_iff.1 hn
      obtain ⟨v, hv1, _, hv2⟩ := hcc j h1
      simp only [List.getElem_map] at hv2
      rw [hv1, hv2.int_inv]
    refine ⟨_, ?_, V.mk_str (foldl_push ns .empty)⟩
    simp only [execOp, ho, hv, Sem.run_bind, run_convert_bytes_string w src dst e _ _ _ hs he hd, run_bytesToString w _ _ cap ns hlo]
    simp
  · rename_i ad fl hf
    split at h
    · simp only [Option.map_eq_some_iff] at h
      obtain ⟨bs, h1, rfl⟩ := h
      obtain ⟨ns, hns, rfl⟩ := bytesOf_ok h1
      have hn0 : ns = [] := by cases ns with
        | nil => rfl
        | cons _ _ => cases hns
      subst hn0
      have hlo : (loadCells ad 0).run P w = .ok (([] : List Int).map (Value.int .u8)).toArray w := run_loadCells_list (P := P) w ad [] (fun j v hj => by simp at hj)
      refine ⟨_, ?_, V.mk_str (foldl_push [] .empty)⟩
      simp only [execOp, ho, hv, Sem.run_bind, run_convert_bytes_string w src dst e _ _ _ hs he hd, run_bytesToString w _ _ 0 [] hlo]
      simp
    · cases h

theorem pv_mfn {a : Act} {o : Oper} {f : FuncId} {first cap : Array Operand} {vs : List SV} {r : SV} {st : List Ob} (ho : o.op = .makeFunc (.func f) first cap)
    (hl : vs.length = (first.toList ++ cap.toList).length) (hv : ∀ i (h : i < vs.length) (h' : i < (first.toList ++ cap.toList).length), ∃ o', V g w o' (a.eval ((first.toList ++ cap.toList)[i]'h')) (vs[i]'h))
    (h : pv st (.mfn f first.size cap.size) vs = some r) : PvOk P g w a o r := by
  simp only [pv] at h
  split at h
  · rename_i hn
    simp only [Option.some.injEq] at h
    subst h
    refine ⟨.func (.func f) (first.map a.eval) (cap.map a.eval), by simp [execOp, ho, Instr.makeFunc], ?_⟩
    refine .fn none f _ _ _ _ (by simp; omega) (by simp; omega) (fun i h h' => ?_) (fun i h h' => ?_)
    · simp at h h'
      obtain ⟨o', hi⟩ := hv i (by omega) (by simp; omega)
      rw [List.getElem_append_left (by simpa using h)] at hi
      simp only [Array.getElem_map, List.getElem_map, List.getElem_take]
      exact hi.ro none
    · simp at h h'
      obtain ⟨o', hi⟩ := hv (first.size + i) (by omega) (by simp; omega)
      rw [List.getElem_append_right (by simp)] at hi
      simp only [Array.getElem_map, List.getElem_map, List.getElem_drop]
      simpa using hi.ro none
  · cases h

theorem pv_lenM {a : Act} {o : Oper} {t k e : TypeId} {x : Operand} {sx r : SV} {st : List Ob} {o1 : Option Owner} (hI : Inv g w st) (ho : o.op = .call { callee := .builtin .len, args := #[x], argTypes := #[t] }) (ht : P.underlying t = some (.map k e)) (hx : V g w o1 (a.eval x) sx)
    (h : pv st .lenM [sx] = some r) : PvOk P g w a o r := by
  generalize hv : a.eval x = v at hx
  cases hx <;> simp only [pv, Option.some.injEq, reduceCtorEq] at h
  · subst h
    exact ⟨.int .i64 0, by simp [execOp, ho, resolve, invoke, builtin, Builtin.len_, run_und ht, hv, goInt], .int _ _ _⟩
  · rename_i id b hp
    split at h
    · rename_i l hs
      simp only [Option.some.injEq] at h
      subst h
      obtain ⟨es, clock, hb, hl, _⟩ := hI.map id b l hp hs
      refine ⟨.int .i64 l.length, ?_, .int _ _ _⟩
      have hg : (getObj b).run P w = .ok (.map es clock) w := by simp [getObj, Sem.run, hb]
      simp [execOp, ho, resolve, invoke, builtin, Builtin.len_, run_und ht, hv, goInt, hg, hl]
    · cases h

end

/-! Publishing: what is exclusive is shared from now on. -/

def Gh.raise (g : Gh) (b m : Nat) : Gh := { g with mark := fun x => if x = b then m else g.mark x }

theorem Rel.pub {g0 : Gh} {w0 : World} {g : Gh} {s : S} {a : Act} {w : World} (h : Rel g0 w0 g s a w) (t : Nat) {xs : List SV} {n es : Nat} (ht : s.get t = .sl xs n (.excl es)) :
    ∃ g', Rel g0 w0 g' { s with env := s.env.set t (.sl xs n (.own es)) } a w := by
  have hlt : t < s.env.length := by
    rcases Nat.lt_or_ge t s.env.length with h' | h'
    · exact h'
    · simp [S.get, List.getElem?_eq_none h'] at ht
  have hlt' : t < a.tmps.size := by rw [h.env.size]; exact hlt
  have hg : s.env[t] = .sl xs n (.excl es) := by simpa [S.get, List.getElem?_eq_getElem hlt] using ht
  have hv := h.env.val t hlt' hlt
  rw [hg] at hv
  generalize hrv : a.tmps[t] = rv at hv
  cases hv with
  | slz _ ad fl hf => rcases hf with h | h <;> cases h
  | sl _ b off len cap _ _ f hlen hcell hone hx hf =>
    obtain ⟨⟨q, hq, hw⟩, h1, h2, h3, h4⟩ := hf
    cases hq
    subst h1
    refine ⟨g.raise b (n * es), ?_⟩
    have ho : ∀ x q', g.ow x = some q' → q'.root ≠ .slot t → x ≠ b := by
      rintro x q' hx hr rfl
      rw [hw] at hx
      simp only [Option.some.injEq] at hx
      exact hr (by rw [← hx])
    have hk : ∀ x, x ≠ b → Keep g w (g.raise b (n * es)) w x := fun x hx => ⟨rfl, by simp [Gh.raise, hx], rfl⟩
    have st : St g w (g.raise b (n * es)) w := by
      refine ⟨rfl, rfl, rfl, Nat.le_refl _, fun _ _ _ _ => rfl, fun x _ => ?_, fun _ _ h => h⟩
      by_cases hx : x = b
      · subst hx; rw [h3]; exact Nat.zero_le _
      · simp [Gh.raise, hx]
    refine ⟨h.fr.trans ⟨st, fun x hx ht => hk x ?_⟩, h.inv.mono st rfl (fun id x hi => hk x (ho x _ (h.inv.obj id x hi).2.2 (by simp))) (fun id i => cell_ne fun x p _ hx => hk x (ho x _ hx (by simp))), ⟨by simpa using h.env.size, fun t' ht' ht'' => ?_⟩, h.defers⟩
    · rintro rfl
      exact ht ⟨_, hw, by simp⟩
    · rw [List.getElem_set]
      split
      · rename_i e
        subst e
        rw [hrv]
        refine .sl _ b 0 _ cap xs (.own es) f hlen hcell hone (fun i hi => (hx i hi).mono st (KeepRoot.none _ _ _ _)) ⟨⟨_, rfl, hw⟩, rfl, h2, ?_, h4⟩
        simp [Gh.raise, h2]
      · rename_i e
        refine (h.env.val t' ht' (by simpa using ht'')).mono st (slot_ne fun x p _ hx => hk x (ho x _ hx ?_))
        simp only [ne_eq, Root.slot.injEq]
        exact fun e' => e e'.symm

end Go.Sh
