/-
  The shadow machine, part R: the rest of the operations.
-/
import Derived.Test.YtihhaeklacphbaaDoorShQ
set_option linter.unusedSimpArgs false
set_option linter.unusedVariables false
namespace Go.Sh

section
variable {P : Program} {g0 : Gh} {w0 : World} {g : Gh} {w : World} {s : S} {a : Act} {o : Oper} {σ : Sg} {res : List Nat} {c : Opc} {as : List Arg}

/-- The bounds' operands. -/
theorem bnd_vals {lo hi mx : Option Operand} {rs : List Arg} (hmh : mx.isSome = true → hi.isSome = true) (hl : rs.length = (lo.toList ++ hi.toList ++ mx.toList).length) (hA : ∀ i (h : i < rs.length) (h' : i < (lo.toList ++ hi.toList ++ mx.toList).length), AOk g w s a ((lo.toList ++ hi.toList ++ mx.toList)[i]'h') (rs[i]'h))
    {n : Int} {L H M : Int} (hL : (if lo.isSome then ((rs.map (Arg.raw s))[0]?).bind intOfV else some 0) = some L) (hH : (if hi.isSome then ((rs.map (Arg.raw s))[if lo.isSome then 1 else 0]?).bind intOfV else some n) = some H)
    (hM : (if mx.isSome then ((rs.map (Arg.raw s))[(if lo.isSome then 1 else 0) + (if hi.isSome then 1 else 0)]?).bind intOfV else some n) = some M) :
    ((lo = none ∧ L = 0) ∨ ∃ y k, lo = some y ∧ a.eval y = .int k L) ∧ ((hi = none ∧ H = n ∧ mx = none) ∨ ∃ y k, hi = some y ∧ a.eval y = .int k H) ∧ ((mx = none ∧ M = n) ∨ ∃ y k, mx = some y ∧ a.eval y = .int k M) := by
  have hval : ∀ (i : Nat) (y : Operand) (n : Int), (lo.toList ++ hi.toList ++ mx.toList)[i]? = some y → ((rs.map (Arg.raw s))[i]?).bind intOfV = some n → ∃ k, a.eval y = .int k n := by
    intro i y n hy hn
    obtain ⟨hi', rfl⟩ := List.getElem?_eq_some_iff.1 hy
    have hi2 : i < rs.length := by omega
    rw [List.getElem?_map, List.getElem?_eq_getElem hi2] at hn
    simp only [Option.map_some, Option.bind_some] at hn
    obtain ⟨ow, hv⟩ := (hA i hi2 hi').V
    exact intOf_inv hv hn
  refine ⟨?_, ?_, ?_⟩
  · cases lo with
    | none => simp at hL; exact .inl ⟨rfl, hL.symm⟩
    | some y =>
      simp only [Option.isSome_some, if_true] at hL
      obtain ⟨k, hk⟩ := hval 0 y L (by simp) hL
      exact .inr ⟨y, k, rfl, hk⟩
  · cases hi with
    | none =>
      cases mx with
      | none => simp at hH; exact .inl ⟨rfl, hH.symm, rfl⟩
      | some m => simp at hmh
    | some y =>
      simp only [Option.isSome_some, if_true] at hH
      cases lo with
      | none => obtain ⟨k, hk⟩ := hval 0 y H (by simp) (by simpa using hH); exact .inr ⟨y, k, rfl, hk⟩
      | some z => obtain ⟨k, hk⟩ := hval 1 y H (by simp) (by simpa using hH); exact .inr ⟨y, k, rfl, hk⟩
  · cases mx with
    | none => simp at hM; exact .inl ⟨rfl, hM.symm⟩
    | some y =>
      simp only [Option.isSome_some, if_true] at hM
      obtain ⟨z, hz⟩ := Option.isSome_iff_exists.1 (hmh rfl)
      subst hz
      cases lo with
      | none => obtain ⟨k, hk⟩ := hval 1 y M (by simp) (by simpa using hM); exact .inr ⟨y, k, rfl, hk⟩
      | some u => obtain ⟨k, hk⟩ := hval 2 y M (by simp) (by simpa using hM); exact .inr ⟨y, k, rfl, hk⟩

theorem bnd_run {bl : Bool} {lo hi mx : Option Operand} {n cap : Nat} {L H M : Int} (hnc : n ≤ cap) (hm : (mx = none ∧ M = n) ∨ ∃ y k, mx = some y ∧ a.eval y = .int k M) (hh : (hi = none ∧ H = n ∧ mx = none) ∨ ∃ y k, hi = some y ∧ a.eval y = .int k H) (hl : (lo = none ∧ L = 0) ∨ ∃ y k, lo = some y ∧ a.eval y = .int k L)
    (h0 : 0 ≤ L) (h1 : L ≤ H) (h2 : H ≤ M) (h3 : M ≤ n) : (Instr.sliceBounds bl n cap (lo.map a.eval) (hi.map a.eval) (mx.map a.eval)).run P w = .ok (L.toNat, H.toNat, if (mx.map a.eval).isSome then M.toNat else cap) w :=
  run_bounds
    (by
      rcases hm with ⟨rfl, rfl⟩ | ⟨y, k, rfl, hy⟩
      · exact .inl ⟨rfl, by omega⟩
      · exact .inr ⟨k, by simp [hy], by omega, by omega⟩)
    (by
      rcases hh with ⟨rfl, rfl, rfl⟩ | ⟨y, k, rfl, hy⟩
      · exact .inl ⟨rfl, rfl, rfl⟩
      · exact .inr ⟨k, by simp [hy]⟩)
    (by
      rcases hl with ⟨rfl, rfl⟩ | ⟨y, k, rfl, hy⟩
      · exact .inl ⟨rfl, rfl⟩
      · exact .inr ⟨k, by simp [hy]⟩) h0 h1

/-- Where a part begins. -/
theorem V.sloPart {g : Gh} {w : World} {ow : Option Owner} {id b off es m : Nat} {L H : Int} (hid : g.ρ[id]? = some b) (h0 : 0 ≤ L) (h1 : L ≤ H) (hm : H.toNat ≤ m) (hc : L.toNat < m ∨ L = 0) :
    V g w ow (.slice (if m = L.toNat then some ⟨b, off, none⟩ else some ⟨b, off + L.toNat * es, none⟩) (H.toNat - L.toNat) (m - L.toNat)) (.slo id (off + L.toNat * es) (H - L).toNat) := by
  rw [show (H - L).toNat = H.toNat - L.toNat by omega]
  by_cases h : m = L.toNat
  · rcases hc with hc | rfl
    · omega
    · rw [if_pos h]
      simp only [Int.toNat_zero, Nat.zero_mul, Nat.add_zero, Nat.sub_zero] at *
      exact .slo _ _ _ _ _ _ hm hid
  · rw [if_neg h]
    exact .slo _ _ _ _ _ _ (by omega) hid

theorem eff_slcP (h : Rel g0 w0 g s a w) {t e : TypeId} {x : Operand} {lo hi mx : Option Operand} {es n : Nat} {ax : Arg} {rs : List Arg} (ho : o.op = .slice t x lo hi mx) (ht : P.underlying t = some (.array n e)) (hn : sz P e = some es)
    (hax : AOk g w s a x ax) (hmh : mx.isSome = true → hi.isSome = true) (hl : rs.length = (lo.toList ++ hi.toList ++ mx.toList).length) (hA : ∀ i (h : i < rs.length) (h' : i < (lo.toList ++ hi.toList ++ mx.toList).length), AOk g w s a ((lo.toList ++ hi.toList ++ mx.toList)[i]'h') (rs[i]'h))
    {r : SV} {wb : List (Nat × SV)} {st' : List Ob} (he : ev s.st (.slcP es n lo.isSome hi.isSome mx.isSome) ((ax :: rs).map (Arg.raw s)) = some (r, wb, st')) : EffOk P g0 w0 (S.put { env := wback (ax :: rs) s.env wb, st := st' } o.dst r) a w o := by
  obtain ⟨ow, hv⟩ := hax.V
  simp only [List.map_cons] at he
  generalize hax' : ax.raw s = sx at he hv
  cases sx <;> first | (simp [ev, pv] at he; done) | skip
  rename_i id off
  simp only [ev, slcPV] at he
  obtain ⟨L, hL, he1⟩ := Option.bind_eq_some_iff.1 he
  clear he
  obtain ⟨H, hH, he2⟩ := Option.bind_eq_some_iff.1 he1
  clear he1
  obtain ⟨M, hM, he⟩ := Option.bind_eq_some_iff.1 he2
  clear he2
  obtain ⟨hl', hh', hm'⟩ := bnd_vals hmh hl hA hL hH hM
  split at he
  · rename_i hb
    obtain ⟨h0, h1, h2, h3, h4⟩ := hb
    simp only [Option.some.injEq, Prod.mk.injEq] at he
    obtain ⟨rfl, rfl, rfl⟩ := he
    obtain ⟨b, hvx, hid⟩ := hv.ptr_inv
    have hb := bnd_run (P := P) (w := w) (bl := false) (cap := n) (Nat.le_refl _) hm' hh' hl' h0 h1 h2 h3
    let m : Nat := if (mx.map a.eval).isSome then M.toNat else n
    have hmN : H.toNat ≤ m ∧ (L.toNat < m ∨ L = 0) := by simp only [m]; split <;> omega
    have hrun : (execOp a.eval o).run P w = .ok (.value (.slice (if m = L.toNat then some ⟨b, off, none⟩ else some ⟨b, off + L.toNat * es, none⟩) (H.toNat - L.toNat) (m - L.toNat))) w := by
      have e1 : (if m = L.toNat then some (⟨b, off, none⟩ : Addr) else some ⟨b, off + L.toNat * es, none⟩) = some (if m = L.toNat then (⟨b, off, none⟩ : Addr) else (⟨b, off, none⟩ : Addr).add (L.toNat * es)) := by
        split
        · rfl
        · rw [addr_add]
      have e2 : (Instr.sureAddr (.pointer (some ⟨b, off, none⟩))).run P w = .ok ⟨b, off, none⟩ w := rfl
      rw [e1]
      simp only [execOp, ho, Instr.sliceAt, Sem.run_bind, run_und ht, Result.andThen_ok, hvx, e2, hb, run_size hn]
      rfl
    exact ⟨_, w, g, .inl hrun, h.put fun d _ => .sloPart hid h0 h1 hmN.1 hmN.2⟩
  · cases he

/-- An element's place; an exclusive slice is published. -/
theorem eff_idxB (h : Rel g0 w0 g s a w) {t e : TypeId} {x i : Operand} {es : Nat} {ax ai : Arg} (ho : o.op = .indexAddr t x i) (ht : P.underlying t = some (.slice e)) (hn : sz P e = some es)
    (hax : AOk g w s a x ax) (hai : AOk g w s a i ai) {r : SV} {wb : List (Nat × SV)} {st' : List Ob} (he : ev s.st (.idxB es) ([ax, ai].map (Arg.raw s)) = some (r, wb, st')) : EffOk P g0 w0 (S.put { env := wback [ax, ai] s.env wb, st := st' } o.dst r) a w o := by
  obtain ⟨ow, hv⟩ := hax.V
  obtain ⟨owi, hvi⟩ := hai.V
  simp only [List.map_cons, List.map_nil] at he
  generalize hax' : ax.raw s = sx at he hv
  generalize hai' : ai.raw s = si at he hvi
  cases sx <;> first | (simp [ev, pv] at he; done) | skip
  · rename_i xs n fl
    cases si <;> first | (simp [ev, pv] at he; done) | skip
    rename_i k m
    simp only [ev] at he
    split at he
    · rename_i hb
      simp only [Option.some.injEq, Prod.mk.injEq] at he
      obtain ⟨rfl, rfl, rfl⟩ := he
      have ei := hvi.int_inv
      by_cases hex : exc (.sl xs n fl) = true
      · obtain ⟨t', rfl⟩ := hax.flg_slot (by rw [hax']; exact exc_flg hex)
        simp only [Arg.raw] at hax'
        obtain ⟨g1, hR, hP, hg, _⟩ := h.publish (Pubd.refl s) (t := t') (by rw [hax']; exact hex)
        have hx1 := hR.env.get t'
        rw [hg, hax'] at hx1
        obtain ⟨_, _, k', hk⟩ := exc_inv hex
        cases hk
        simp only [Sh.pub] at hx1
        have hp : pv s.st (.idxA es) [.sl xs n (.own k'), .int k m] = some (.elv xs (m.toNat * es)) := by simp only [pv]; rw [if_pos hb]
        have := EffOk.pure hR (pv_idxA ho ht hn (by rw [hax.eval t' rfl]; exact hx1) (show V _ _ none _ _ from by rw [ei]; exact .int _ _ _) hp)
        simp only [pubs, pubsFrom, exc, if_true, wback, List.getElem?_cons_zero, Sh.pub]
        rw [hax'] at this
        exact this
      · have hp : pv s.st (.idxA es) [.sl xs n fl, .int k m] = some (.elv xs (m.toNat * es)) := by
          simp only [pv]; rw [if_pos hb]
          cases fl <;> first | rfl | exact absurd rfl hex
        have := EffOk.pure h (pv_idxA ho ht hn hv hvi hp)
        simp only [pubs, pubsFrom, hex, if_false, wback]
        exact this
    · cases he
  · rename_i id off n
    cases si <;> first | (simp [ev, pv] at he; done) | skip
    rename_i k m
    simp only [ev] at he
    split at he
    · rename_i hb
      simp only [Option.some.injEq, Prod.mk.injEq] at he
      obtain ⟨rfl, rfl, rfl⟩ := he
      have hp : pv s.st (.idxA es) [.slo id off n, .int k m] = some (.ptr id (off + m.toNat * es)) := by simp only [pv]; rw [if_pos hb]
      exact EffOk.pure h (pv_idxA ho ht hn hv hvi hp)
    · cases he

theorem eff_slcL (h : Rel g0 w0 g s a w) {t e : TypeId} {x : Operand} {lo hi mx : Option Operand} {es : Nat} {ax : Arg} {rs : List Arg} (ho : o.op = .slice t x lo hi mx) (ht : P.underlying t = some (.slice e)) (hn : sz P e = some es)
    (hax : AOk g w s a x ax) (hmh : mx.isSome = true → hi.isSome = true) (hl : rs.length = (lo.toList ++ hi.toList ++ mx.toList).length) (hA : ∀ i (h : i < rs.length) (h' : i < (lo.toList ++ hi.toList ++ mx.toList).length), AOk g w s a ((lo.toList ++ hi.toList ++ mx.toList)[i]'h') (rs[i]'h))
    {r : SV} {wb : List (Nat × SV)} {st' : List Ob} (he : ev s.st (.slcL es lo.isSome hi.isSome mx.isSome) ((ax :: rs).map (Arg.raw s)) = some (r, wb, st')) : EffOk P g0 w0 (S.put { env := wback (ax :: rs) s.env wb, st := st' } o.dst r) a w o := by
  simp only [List.map_cons, ev, slcV] at he
  obtain ⟨L, hL, he1⟩ := Option.bind_eq_some_iff.1 he
  clear he
  obtain ⟨H, hH, he2⟩ := Option.bind_eq_some_iff.1 he1
  clear he1
  obtain ⟨M, hM, he⟩ := Option.bind_eq_some_iff.1 he2
  clear he2
  -- the bounds' operands
  have hval : ∀ (i : Nat) (y : Operand) (n : Int), (lo.toList ++ hi.toList ++ mx.toList)[i]? = some y → ((rs.map (Arg.raw s))[i]?).bind intOfV = some n → ∃ k, a.eval y = .int k n := by
    intro i y n hy hn
    obtain ⟨hi', rfl⟩ := List.getElem?_eq_some_iff.1 hy
    have hi2 : i < rs.length := by omega
    rw [List.getElem?_map, List.getElem?_eq_getElem hi2] at hn
    simp only [Option.map_some, Option.bind_some] at hn
    obtain ⟨ow, hv⟩ := (hA i hi2 hi').V
    exact intOf_inv hv hn
  have hl' : (lo = none ∧ L = 0) ∨ ∃ y k, lo = some y ∧ a.eval y = .int k L := by
    cases lo with
    | none => simp at hL; exact .inl ⟨rfl, hL.symm⟩
    | some y =>
      simp only [Option.isSome_some, if_true] at hL
      obtain ⟨k, hk⟩ := hval 0 y L (by simp) hL
      exact .inr ⟨y, k, rfl, hk⟩
  rcases (show (∃ xs n fl, ax.raw s = .sl xs n fl) ∨ ax.raw s = .nilS ∨ (∃ id off n, ax.raw s = .slo id off n) from by
    cases hv : ax.raw s <;> rw [hv] at he <;> first | (exact .inl ⟨_, _, _, rfl⟩) | (exact .inr (.inl rfl)) | (exact .inr (.inr ⟨_, _, _, rfl⟩)) | (simp at he; done)) with ⟨xs, n, fl, hraw⟩ | hraw | ⟨id, off, n, hraw⟩
  · rw [hraw] at he hH hM
    simp only at he hH hM
    have hh' : (hi = none ∧ H = n ∧ mx = none) ∨ ∃ y k, hi = some y ∧ a.eval y = .int k H := by
      cases hi with
      | none =>
        cases mx with
        | none => simp at hH; exact .inl ⟨rfl, hH.symm, rfl⟩
        | some m => simp at hmh
      | some y =>
        simp only [Option.isSome_some, if_true] at hH
        cases lo with
        | none => obtain ⟨k, hk⟩ := hval 0 y H (by simp) (by simpa using hH); exact .inr ⟨y, k, rfl, hk⟩
        | some z => obtain ⟨k, hk⟩ := hval 1 y H (by simp) (by simpa using hH); exact .inr ⟨y, k, rfl, hk⟩
    have hm' : (mx = none ∧ M = n) ∨ ∃ y k, mx = some y ∧ a.eval y = .int k M := by
      cases mx with
      | none => simp at hM; exact .inl ⟨rfl, hM.symm⟩
      | some y =>
        simp only [Option.isSome_some, if_true] at hM
        obtain ⟨z, hz⟩ := Option.isSome_iff_exists.1 (hmh rfl)
        subst hz
        cases lo with
        | none => obtain ⟨k, hk⟩ := hval 1 y M (by simp) (by simpa using hM); exact .inr ⟨y, k, rfl, hk⟩
        | some u => obtain ⟨k, hk⟩ := hval 2 y M (by simp) (by simpa using hM); exact .inr ⟨y, k, rfl, hk⟩
    split at he
    · rename_i hb
      obtain ⟨h0, h1, h2, h3, h4⟩ := hb
      simp only [Option.some.injEq, Prod.mk.injEq] at he
      obtain ⟨rfl, rfl, rfl⟩ := he
      by_cases hex : exc (.sl xs n fl) = true
      · -- published first
        obtain ⟨t', rfl⟩ := hax.flg_slot (by rw [hraw]; exact exc_flg hex)
        simp only [Arg.raw] at hraw
        obtain ⟨g1, hR, hP, hg, _⟩ := h.publish (Pubd.refl s) (t := t') (by rw [hraw]; exact hex)
        have hx1 := hR.env.get t'
        rw [hg, hraw] at hx1
        obtain ⟨_, _, k, hk⟩ := exc_inv hex
        cases hk
        simp only [Sh.pub] at hx1
        have := slc_core hR ho ht hn (by rw [hax.eval t' rfl]; exact hx1) (fun _ e => by cases e) h4 hm' hh' hl' h0 h1 h2 h3
        simp only [exc, if_true, wback, List.getElem?_cons_zero, Sh.pub]
        rw [hraw] at this
        exact this
      · have hne : ∀ k, fl ≠ .excl k := by rintro k rfl; exact hex rfl
        obtain ⟨ow, hv⟩ := hax.V
        rw [hraw] at hv
        have := slc_core h ho ht hn hv hne h4 hm' hh' hl' h0 h1 h2 h3
        simp only [hex, if_false, wback]
        exact this
    · cases he
  · rw [hraw] at he hH hM
    simp only at he hH hM
    split at he
    · rename_i hb
      obtain ⟨rfl, rfl, rfl⟩ := hb
      simp only [Option.some.injEq, Prod.mk.injEq] at he
      obtain ⟨rfl, rfl, rfl⟩ := he
      obtain ⟨ow, hv⟩ := hax.V
      rw [hraw] at hv
      generalize hvx : a.eval x = vx at hv
      cases hv
      have hh' : (hi = none ∧ (0 : Int) = (0 : Nat) ∧ mx = none) ∨ ∃ y k, hi = some y ∧ a.eval y = .int k 0 := by
        cases hi with
        | none =>
          cases mx with
          | none => exact .inl ⟨rfl, rfl, rfl⟩
          | some m => simp at hmh
        | some y =>
          simp only [Option.isSome_some, if_true] at hH
          cases lo with
          | none => obtain ⟨k, hk⟩ := hval 0 y 0 (by simp) (by simpa using hH); exact .inr ⟨y, k, rfl, hk⟩
          | some z => obtain ⟨k, hk⟩ := hval 1 y 0 (by simp) (by simpa using hH); exact .inr ⟨y, k, rfl, hk⟩
      have hm' : mx = none ∨ ∃ y k, mx = some y ∧ a.eval y = .int k 0 := by
        cases mx with
        | none => exact .inl rfl
        | some y =>
          simp only [Option.isSome_some, if_true] at hM
          obtain ⟨z, hz⟩ := Option.isSome_iff_exists.1 (hmh rfl)
          subst hz
          cases lo with
          | none => obtain ⟨k, hk⟩ := hval 1 y 0 (by simp) (by simpa using hM); exact .inr ⟨y, k, rfl, hk⟩
          | some u => obtain ⟨k, hk⟩ := hval 2 y 0 (by simp) (by simpa using hM); exact .inr ⟨y, k, rfl, hk⟩
      have hb := run_bounds (P := P) (w := w) (bl := true) (len := 0) (cap := 0) (lo := lo.map a.eval) (hi := hi.map a.eval) (mx := mx.map a.eval) (l := 0) (h := 0) (m := 0)
        (by
          rcases hm' with rfl | ⟨y, k, rfl, hy⟩
          · exact .inl ⟨rfl, by simp⟩
          · exact .inr ⟨k, by simp [hy], by simp, by simp⟩)
        (by
          rcases hh' with ⟨rfl, _, rfl⟩ | ⟨y, k, rfl, hy⟩
          · exact .inl ⟨rfl, rfl, rfl⟩
          · exact .inr ⟨k, by simp [hy]⟩)
        (by
          rcases hl' with ⟨rfl, _⟩ | ⟨y, k, rfl, hy⟩
          · exact .inl ⟨rfl, rfl⟩
          · exact .inr ⟨k, by simp [hy]⟩) (by simp) (by simp)
      refine ⟨.slice none 0 0, w, g, .inl ?_, h.put fun _ _ => .nilS _⟩
      simp only [execOp, ho, Instr.sliceAt, Sem.run_bind, run_und ht, Result.andThen_ok, Instr.slice, hvx, hb, run_size hn]
      simp
    · cases he
  · rw [hraw] at he hH hM
    simp only at he hH hM
    obtain ⟨_, hh', hm'⟩ := bnd_vals hmh hl hA hL hH hM
    split at he
    · rename_i hb
      obtain ⟨h0, h1, h2, h3, h4⟩ := hb
      simp only [Option.some.injEq, Prod.mk.injEq] at he
      obtain ⟨rfl, rfl, rfl⟩ := he
      obtain ⟨ow, hv⟩ := hax.V
      rw [hraw] at hv
      generalize hvx : a.eval x = vx at hv
      cases hv with
      | slo _ _ _ _ b cap hlen hid =>
        have hb := bnd_run (P := P) (w := w) (bl := true) (cap := cap) hlen hm' hh' hl' h0 h1 h2 h3
        let m : Nat := if (mx.map a.eval).isSome then M.toNat else cap
        have hmN : H.toNat ≤ m ∧ (L.toNat < m ∨ L = 0) := by simp only [m]; split <;> omega
        have hrun : (execOp a.eval o).run P w = .ok (.value (.slice (if m = L.toNat then some ⟨b, off, none⟩ else some ⟨b, off + L.toNat * es, none⟩) (H.toNat - L.toNat) (m - L.toNat))) w := by
          simp only [execOp, ho, Instr.sliceAt, Sem.run_bind, run_und ht, Result.andThen_ok, Instr.slice, hvx, hb, run_size hn]
          simp only [m, Option.map_some, addr_add]
          rfl
        refine ⟨_, w, g, .inl hrun, h.put fun d _ => ?_⟩
        by_cases hc : (mx.isSome && (decide (L = H) && decide (H = M))) = true
        · rw [if_pos hc]
          simp only [Bool.and_eq_true, decide_eq_true_eq] at hc
          obtain ⟨hc1, rfl, rfl⟩ := hc
          have hm0 : m = L.toNat := by simp only [m, Option.isSome_map, hc1, if_true]
          rw [if_pos hm0, hm0, Nat.sub_self]
          exact .sl _ b off 0 0 [] .full (fun _ => Go.undef) (Nat.le_refl _) (fun i hi => by simp at hi) (fun i hi => by simp at hi) (fun i hi => by simp at hi) ⟨.inl rfl, rfl⟩
        · rw [if_neg hc]
          exact .sloPart hid h0 h1 hmN.1 hmN.2
    · cases he

theorem op_3 (h : Rel g0 w0 g s a w) (hσ : Sub σ a) (hc : cOp P res σ o = some (c, as)) {r : SV} {wb : List (Nat × SV)} {st' : List Ob} (he : ev s.st c (as.map (Arg.raw s)) = some (r, wb, st'))
    (hk : (∃ t x lo hi mx, o.op = .slice t x lo hi mx) ∨ (∃ t x y, o.op = .makeSlice t x y) ∨ (∃ t n ps, o.op = .buildSlice t n ps) ∨ (∃ f x y, o.op = .makeFunc f x y)) :
    EffOk P g0 w0 (S.put { env := wback as s.env wb, st := st' } o.dst r) a w o := by
  have hA : ∀ {x : Operand} {ar : Arg}, argOf σ x = some ar → AOk g w s a x ar := fun hx => AOk.of h.env hσ hx
  have hAs : ∀ {xs : List Operand} {ars : List Arg}, xs.mapM (argOf σ) = some ars → ars.length = xs.length ∧ ∀ i (h1 : i < ars.length) (h2 : i < xs.length), AOk g w s a (xs[i]'h2) (ars[i]'h1) := fun hm => ⟨(mapM_get hm).1, fun i h1 h2 => hA ((mapM_get hm).2 i h1 h2)⟩
  rcases hk with ⟨t, x, lo, hi, mx, ho⟩ | ⟨t, x, y, ho⟩ | ⟨t, n, ps, ho⟩ | ⟨f, x, y, ho⟩
  · simp only [cOp, ho, Option.bind_eq_bind, Option.bind_eq_some_iff] at hc
    obtain ⟨rs, hrs, hc⟩ := hc
    obtain ⟨hrl, hra⟩ := hAs hrs
    split at hc
    · rename_i ht
      split at hc
      · cases hc
      · rename_i hmx
        simp only [Option.bind_eq_some_iff, Option.some.injEq, Prod.mk.injEq] at hc
        obtain ⟨ar, hx, rfl, rfl⟩ := hc
        have hmx' : mx = none := by cases mx with | none => rfl | some _ => simp at hmx
        subst hmx'
        obtain ⟨ow, hv⟩ := (hA hx).V
        simp only [Option.toList_none, List.append_nil] at hrl hra
        refine eff_pv h rfl he fun r hr => ?_
        simp only [List.map_cons] at hr
        generalize ar.raw s = s1 at hr hv
        cases s1 <;> first | (simp only [pv, reduceCtorEq] at hr; done) | skip
        exact pv_slcS ho ht hv (by simpa using hrl) (fun i h1 h2 => by
          obtain ⟨o', h3⟩ := (hra i (by simpa using h1) h2).V
          exact ⟨o', by simpa using h3⟩) hr
    · rename_i e ht
      split at hc
      · cases hc
      · rename_i hmx
        simp only [Option.bind_eq_some_iff, Option.some.injEq, Prod.mk.injEq] at hc
        obtain ⟨n, hn, ar, hx, rfl, rfl⟩ := hc
        exact eff_slcL h ho ht hn (hA hx) (fun hm => by cases hi with | none => simp [hm] at hmx | some _ => rfl) hrl hra he
    · rename_i len e ht
      split at hc
      · cases hc
      · rename_i hmx
        simp only [Option.bind_eq_some_iff, Option.some.injEq, Prod.mk.injEq] at hc
        obtain ⟨n, hn, ar, hx, rfl, rfl⟩ := hc
        exact eff_slcP h ho ht hn (hA hx) (fun hm => by cases hi with | none => simp [hm] at hmx | some _ => rfl) hrl hra he
    · cases hc
  · simp only [cOp, ho] at hc
    split at hc
    · rename_i e ht
      simp only [Option.bind_eq_bind, Option.bind_eq_some_iff] at hc
      obtain ⟨i, hi, z, hz, hc⟩ := hc
      split at hc
      · rename_i hs
        simp only [Option.bind_eq_some_iff, Option.some.injEq, Prod.mk.injEq] at hc
        obtain ⟨a1, h1, a2, h2, rfl, rfl⟩ := hc
        exact eff_mkS h ho ht hi hz hs.1 (hA h1) (hA h2) he
      · cases hc
    · cases hc
  · simp only [cOp, ho] at hc
    split at hc
    · rename_i e ht
      simp only [Option.bind_eq_bind, Option.bind_eq_some_iff] at hc
      obtain ⟨i, hi, z, hz, hc⟩ := hc
      split at hc
      · rename_i hs
        simp only [Option.bind_eq_some_iff, Option.some.injEq, Prod.mk.injEq] at hc
        obtain ⟨rs, hrs, rfl, rfl⟩ := hc
        obtain ⟨hrl, hra⟩ := hAs hrs
        split at he
        · exact eff_bslO h ho ht hi hz hs.1 hs.2.1 hs.2.2 hrl hra he
        · exact eff_bsl h ho ht hi hz hs.1 hs.2.1 hs.2.2 hrl hra he
      · cases hc
    · cases hc
  · cases f <;> simp only [cOp, ho, reduceCtorEq] at hc
    simp only [Option.bind_eq_bind, Option.bind_eq_some_iff, Option.some.injEq, Prod.mk.injEq] at hc
    obtain ⟨rs, hrs, rfl, rfl⟩ := hc
    obtain ⟨hrl, hra⟩ := hAs hrs
    refine eff_pv h ?_ he fun r hr => pv_mfn ho (by simpa using hrl) (fun i h1 h2 => by
      obtain ⟨o', h3⟩ := (hra i (by simpa using h1) h2).V
      exact ⟨o', by simpa using h3⟩) hr
    cases rs with
    | nil => rfl
    | cons x r1 => cases r1 with
      | nil => rfl
      | cons y r2 => rfl

end
end Go.Sh
