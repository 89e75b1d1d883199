/-
  The program's own Join: by the kit's laws on ranges over functions, and its contract of the library's Join.
-/
import Derived.Test.YtkdemcappkpibaaCk
import Derived.Test.YtkdemcappkpibaaShelf
import Derived.RangeFuncNested
import Derived.RangeFuncCalls
namespace Go.Proofs
open Go.RowKit Go.Shelf
attribute [local go_sem] Oper.semAt_some

theorem join_flat : ∀ xs : List (List UInt8), Lib.join xs [] = xs.flatten
  | [] => rfl
  | x :: r => by
    rw [Lib.join_cons, List.flatten_cons]
    congr 1
    unfold Lib.joinTail
    simp

/-- A slice of strings in memory. -/
def StrsAt (w : World) (p : Option Addr) (cap : Nat) (xs : List (List UInt8)) : Prop :=
  xs.length ≤ cap ∧ (0 < xs.length → ∃ bk o, p = some ⟨bk, o, none⟩ ∧ bk < w.heap.size ∧ ∀ j (h : j < xs.length), w.cell? ⟨bk, o + j, none⟩ = some (strV xs[j]))

theorem Try.sj (w : World) (p : Option Addr) (cap : Nat) (xs : List (List UInt8)) (h : StrsAt w p cap xs) (hN : xs.length ≤ 140737488355328) (hL : xs.flatten.length ≤ 140737488355328) :
    Calls Try.prog 20 #[.slice p xs.length cap, .string ⟨#[]⟩] w fun e w' => e = .returned (strV xs.flatten) ∧ Below w.heap.size w w' := by
  by_cases h0 : xs.length = 0
  · have : xs = [] := List.eq_nil_of_length_eq_zero h0
    subst this
    refine (Try.strings_Join_none p cap ⟨#[]⟩ w).mono ?_
    rintro e w' ⟨rfl, rfl⟩
    exact ⟨rfl, Below.refl _ _⟩
  · obtain ⟨bk, o, rfl, hb, hc⟩ := h.2 (by omega)
    have e1 : (xs.map fun l => (⟨l.toArray⟩ : ByteArray)).map (·.data.toList) = xs := by rw [List.map_map]; exact (List.map_congr_left (fun _ _ => rfl)).trans (List.map_id _)
    have := Try.strings_Join bk o cap (xs.map fun l => ⟨l.toArray⟩) ⟨#[]⟩ w (by
      intro j x hx
      rw [List.getElem?_map, Option.map_eq_some_iff] at hx
      obtain ⟨l, hl, rfl⟩ := hx
      obtain ⟨hj, rfl⟩ := List.getElem?_eq_some_iff.1 hl
      exact hc j hj) hb (by simpa using hN) (by simpa using h.1) (by rw [e1]; show (Lib.join xs []).length ≤ _; rw [join_flat]; exact hL)
    rw [e1, List.length_map] at this
    refine this.mono ?_
    rintro e w' ⟨rfl, hw⟩
    refine ⟨?_, hw⟩
    show Ending.returned (.string ⟨(Lib.join xs []).toArray⟩) = _
    rw [join_flat]

/-- What comes of pieces. -/
def joinF (xs : List (List UInt8)) : List UInt8 × Bool := if cutF xs.flatten = xs then (xs.flatten, true) else ([], false)

set_option maxRecDepth 100000 in
set_option maxHeartbeats 4000000 in
theorem Try.Join_calls (w : World) (p : Option Addr) (cap : Nat) (xs : List (List UInt8)) (h : StrsAt w p cap xs) (hN : xs.length ≤ 1099511627776) (hL : xs.flatten.length ≤ 1099511627776) :
    Calls Try.prog 11 #[.slice p xs.length cap] w fun e w' => e = .returned (.tuple #[strV (joinF xs).1, .bool (joinF xs).2]) ∧ Below w.heap.size w w' := by
  refine (callsIn_wide (n := 5)).1 ?_
  refine callsIn_of_wp_marks Try.func11 rfl trivial ?_ rfl
  simp only [Try.ntmps11, List.size_toArray, List.length_cons, List.length_nil, Nat.reduceAdd, Nat.reduceSub, Array.replicate_succ, Array.replicate_zero, List.push_toArray, List.append_toArray, List.nil_append, List.cons_append]
  have hStr : ∀ W, Below w.heap.size w W → StrsAt W p cap xs := fun W hW => ⟨h.1, fun h0 => by
    obtain ⟨bk, o, hp, hb, hc⟩ := h.2 h0
    exact ⟨bk, o, hp, Nat.lt_of_lt_of_le hb hW.size, fun j hj => (hW.cell (p := ⟨bk, o + j, none⟩) hb).trans (hc j hj)⟩⟩
  have b0 := Boxed.new w 22 (.slice p xs.length cap)
  have b1 := Boxed.new (w.alloc (.cells #[.slice p xs.length cap] 22)) 9 (strV [])
  have b2 := Boxed.new ((w.alloc (.cells #[.slice p xs.length cap] 22)).alloc (.cells #[strV []] 9)) 4 (.bool false)
  simp only [World.size_alloc] at b1 b2
  have hB0 : Below w.heap.size w (((w.alloc (.cells #[.slice p xs.length cap] 22)).alloc (.cells #[strV []] 9)).alloc (.cells #[.bool false] 4)) := (((Below.refl _ w).alloc (Nat.le_refl _) _).alloc (by simp) _).alloc (by simp; omega) _
  have c0 := ((b0.alloc (.cells #[strV []] 9)).alloc (.cells #[.bool false] 4)).cell
  gi_wp2_with (first
    | (refine ⟨trivial, ?_⟩; gi_at_call 20; refine (callsIn_wide.2 (Try.sj _ p cap xs (hStr _ hB0) (by omega) (by omega))).mono ?_; rintro e w1 ⟨rfl, hw1⟩)
    | (refine ⟨trivial, ?_⟩; gi_at_call 21; refine (Try.pieces_in Fence.wide _ trivial rfl _ _).mono ?_; rintro e w' ⟨rfl, rfl⟩))
  have hs1 : w.heap.size + 1 + 1 + 1 ≤ w1.heap.size := by have := hw1.size; simpa using this
  have hB1 : Below w.heap.size w w1 := hB0.trans (hw1.mono (by simp; omega))
  have d0 : Boxed w1 w.heap.size 22 (.slice p xs.length cap) := (hw1.block _ (by simp; omega)).trans ((b0.alloc _).alloc _)
  have d1 : Boxed w1 (w.heap.size + 1) 9 (strV []) := (hw1.block _ (by simp)).trans (b1.alloc _)
  have d2 : Boxed w1 (w.heap.size + 1 + 1) 4 (.bool false) := (hw1.block _ (by simp)).trans b2
  have d5 := Boxed.new w1 3 (.int .i64 0)
  have dN := Boxed.new (w1.alloc (.cells #[.int .i64 0] 3)) 9 (strV xs.flatten)
  rw [World.size_alloc] at dN
  have hB2 : Below w.heap.size w ((w1.alloc (.cells #[.int .i64 0] 3)).alloc (.cells #[strV xs.flatten] 9)) := (hB1.alloc (by omega) _).alloc (by simp; omega) _
  have nofr : ∀ (W : World), Boxed W (w.heap.size + 1) 9 (strV []) → Boxed W (w.heap.size + 1 + 1) 4 (.bool false) → True := fun _ _ _ => trivial
  refine wpIn_rangeFunc_ownF rfl (by omega) (gf := 27) (lb := #[.pointer (some ⟨w1.heap.size + 1, 0, none⟩)]) rfl trivial (enters_of Try.func27 (by kernel_rfl) rfl)
    (Try.pieces_stops Fence.wide _ trivial rfl (by omega) (w1.heap.size + 1) w.heap.size xs.flatten hL _ (by simp) dN.cell) belowK_t (belowK_b (by simp; omega)) (Below.refl _ _) (fun _ => rfl)
    (fun pre W => (pre <+: xs ∧ Boxed W w.heap.size 22 (.slice p xs.length cap) ∧ Boxed W (w.heap.size + 1) 9 (strV []) ∧ Boxed W (w.heap.size + 1 + 1) 4 (.bool false) ∧ Boxed W w1.heap.size 3 (.int .i64 pre.length)) ∧ Below w.heap.size w W)
    (fun c pre W => (c = .ret ∧ ¬ pre <+: xs ∧ Boxed W (w.heap.size + 1) 9 (strV []) ∧ Boxed W (w.heap.size + 1 + 1) 4 (.bool false)) ∧ Below w.heap.size w W)
    (OwnFrom.and (Own.from (fun s A B row hs hg hr => ⟨hs.1, boxed_own _ _ (fun _ => _) () A B row hs.2.1 hg hr, boxed_own _ _ (fun _ => _) () A B row hs.2.2.1 hg hr, boxed_own _ _ (fun _ => _) () A B row hs.2.2.2.1 hg hr, boxed_own _ _ (fun _ => _) () A B row hs.2.2.2.2 hg hr⟩) _) (ownFrom_below (Nat.le_refl _) (by simp; omega)))
    (fun c => OwnFrom.and (Own.from (fun s A B row hs hg hr => ⟨hs.1, hs.2.1, boxed_own _ _ (fun _ => _) () A B row hs.2.2.1 hg hr, boxed_own _ _ (fun _ => _) () A B row hs.2.2.2 hg hr⟩) _) (ownFrom_below (Nat.le_refl _) (by simp; omega)))
    ⟨⟨List.nil_prefix, (d0.alloc _).alloc _, (d1.alloc _).alloc _, (d2.alloc _).alloc _, d5.alloc _⟩, hB2⟩
    (fun x => { tmps := #[.slice p xs.length cap, .pointer (some ⟨w.heap.size, 0, none⟩), .pointer (some ⟨w.heap.size + 1, 0, none⟩), .pointer (some ⟨w.heap.size + 1 + 1, 0, none⟩), strV xs.flatten, .pointer (some ⟨w1.heap.size, 0, none⟩), strV x, .slice p xs.length cap, strV xs.flatten, strV xs.flatten, .func (.func 27) #[] #[.pointer (some ⟨w1.heap.size + 1, 0, none⟩)], strV x, undef, undef, undef, undef, undef, undef, undef, undef, undef, undef, undef, undef, undef, undef, undef, undef, undef, undef, undef], defers := [] }) ?assign ?body ?done ?stop
  case assign =>
    intro l x W K hK
    gi_wp2
    exact hK
  case body =>
    rintro l pre x W ⟨⟨hpre, e0, e1, e2, e5⟩, hB⟩ hlt
    have f0 := e0.cell
    have f1 := e1.cell
    have f2 := e2.cell
    have f5 := e5.cell
    have g1 := e1.frozen
    have g2 := e2.frozen
    have g5 := e5.frozen
    have hple := hpre.length_le
    by_cases hk : pre.length < xs.length
    · obtain ⟨bk, o, rfl, hb, hc⟩ := (hStr W hB).2 (by omega)
      have hc1 := hc pre.length hk
      have hret : ∀ W1, W1 = (W.setCell ⟨w.heap.size + 1, 0, none⟩ (.string ⟨#[]⟩)).setCell ⟨w.heap.size + 1 + 1, 0, none⟩ (.bool false) → KeepsOthers W W1 ∧ Boxed W1 (w.heap.size + 1) 9 (strV []) ∧ Boxed W1 (w.heap.size + 1 + 1) 4 (.bool false) ∧ Below w.heap.size w W1 := by
        rintro W1 rfl
        exact ⟨(KeepsOthers.setCell _ _ _).trans (KeepsOthers.setCell _ _ _), (e1.set (strV [])).other (by simp) _, (e2.other (by simp) _).set _, (hB.setCell (p := ⟨w.heap.size + 1, 0, none⟩) (by simp) _).setCell (p := ⟨w.heap.size + 1 + 1, 0, none⟩) (by simp; omega) _⟩
      gi_wp2
      · rename_i hx
        obtain ⟨k1, k2, k3, k4⟩ := hret _ rfl
        refine ⟨k1, ⟨rfl, ?_, k2, k3⟩, k4⟩
        rintro ⟨t, ht⟩
        have e : xs[pre.length] = x := by simp [← ht]
        rw [e] at hx
        simp at hx
        omega
      · rename_i hx
        have hx2 : xs[pre.length] = x := by have := hx.2; simpa using this
        refine ⟨KeepsOthers.setCell _ _ _, (Below.refl w.heap.size W).setCell (p := ⟨w1.heap.size, 0, none⟩) (by simp; omega) _, ⟨?_, e0.other (by omega) _, e1.other (by omega) _, e2.other (by omega) _, ?_⟩, hB.setCell (p := ⟨w1.heap.size, 0, none⟩) (by simp; omega) _⟩
        · rw [← hx2]
          obtain ⟨t, ht⟩ := hpre
          cases t with
          | nil => rw [List.append_nil] at ht; rw [ht] at hk; omega
          | cons z t => exact ⟨t, by simp [← ht]⟩
        · have := e5.set (.int .i64 ((pre.length : Int) + 1))
          rw [List.length_append]
          simpa using this
    · have hret : ∀ W1, W1 = (W.setCell ⟨w.heap.size + 1, 0, none⟩ (.string ⟨#[]⟩)).setCell ⟨w.heap.size + 1 + 1, 0, none⟩ (.bool false) → KeepsOthers W W1 ∧ Boxed W1 (w.heap.size + 1) 9 (strV []) ∧ Boxed W1 (w.heap.size + 1 + 1) 4 (.bool false) ∧ Below w.heap.size w W1 := by
        rintro W1 rfl
        exact ⟨(KeepsOthers.setCell _ _ _).trans (KeepsOthers.setCell _ _ _), (e1.set (strV [])).other (by simp) _, (e2.other (by simp) _).set _, (hB.setCell (p := ⟨w.heap.size + 1, 0, none⟩) (by simp) _).setCell (p := ⟨w.heap.size + 1 + 1, 0, none⟩) (by simp; omega) _⟩
      have hk2 : (xs.length : Int) ≤ pre.length := by omega
      gi_wp2
      obtain ⟨k1, k2, k3, k4⟩ := hret _ rfl
      refine ⟨k1, ⟨rfl, ?_, k2, k3⟩, k4⟩
      intro hp
      have := hp.length_le
      simp at this
      omega
  case done =>
    rintro D ys W hD rfl ⟨⟨hpre, e0, e1, e2, e5⟩, hB⟩ hK
    have f0 := e0.cell
    have f1 := e1.cell
    have f2 := e2.cell
    have f5 := e5.cell
    have g1 := e1.frozen
    have g2 := e2.frozen
    have fin : ∀ (u : List UInt8) (b : Bool) (W1 : World) (a : Act), W1 = (W.setCell ⟨w.heap.size + 1, 0, none⟩ (strV u)).setCell ⟨w.heap.size + 1 + 1, 0, none⟩ (.bool b) → joinF xs = (u, b) →
        a.defers = [{ target := .collected D, args := #[] }] → a.tmps.getD 2 undef = .pointer (some ⟨w.heap.size + 1, 0, none⟩) → a.tmps.getD 3 undef = .pointer (some ⟨w.heap.size + 1 + 1, 0, none⟩) →
        bodyPostM Fence.wide 5 Try.prog Try.f11 (fun e w' => e = Ending.returned (.tuple #[strV (joinF xs).1, .bool (joinF xs).2]) ∧ Below w.heap.size w w') Exit.ret a W1 := by
      rintro u b W1 ⟨ts, ds⟩ rfl hj rfl h2 h3
      have k1 := (e1.set (strV u)).other (B' := w.heap.size + 1 + 1) (by simp) (.bool b)
      have k2 := (e2.other (B' := w.heap.size + 1) (by simp) (strV u)).set (.bool b)
      have kD := ((KeepsOthers.setCell W ⟨w.heap.size + 1, 0, none⟩ (strV u)).trans (KeepsOthers.setCell _ ⟨w.heap.size + 1 + 1, 0, none⟩ (.bool b))).same D _ hK rfl
      have hB1 := (hB.setCell (p := ⟨w.heap.size + 1, 0, none⟩) (by simp) (strV u)).setCell (p := ⟨w.heap.size + 1 + 1, 0, none⟩) (by simp; omega) (.bool b)
      have c1 := cell_kept k1.cell (grownBy_putObj' _ D (.deferred none)) (fun r e => by cases e; exact ⟨_, kD, rfl⟩)
      have c2 := cell_kept k2.cell (grownBy_putObj' _ D (.deferred none)) (fun r e => by cases e; exact ⟨_, kD, rfl⟩)
      refine ⟨by simp, .inl ⟨_, _, rfl, run_takeDeferred kD, ?_⟩⟩
      refine ⟨.tuple #[strV (joinF xs).1, .bool (joinF xs).2], ?_, rfl, hB1.trans (belowK_b (w := w) (Nat.le_refl _) _ D _ _ (by simp at hD; omega) kD rfl rfl)⟩
      rw [hj]
      simp only [Array.getD_eq_getD_getElem?] at h2 h3
      simp [results, Try.f11, go_sem, h2, h3, c1, c2]
    by_cases hk : (cutF xs.flatten).length = xs.length
    · have hj : joinF xs = (xs.flatten, true) := by unfold joinF; rw [if_pos (hpre.eq_of_length hk)]
      gi_wp2
      exact fin xs.flatten true _ _ rfl hj rfl rfl rfl
    · have hj : joinF xs = ([], false) := by unfold joinF; rw [if_neg (fun e => hk (congrArg List.length e))]
      gi_wp2
      exact fin [] false _ _ rfl hj rfl rfl rfl
  case stop =>
    rintro D c pre W hD hpre ⟨⟨rfl, hnp, e1, e2⟩, hB⟩ hK
    gi_wp2
    refine ⟨by simp, .inl ⟨_, _, rfl, run_takeDeferred hK, ?_⟩⟩
    have k1 := cell_kept e1.cell (grownBy_putObj' _ D (.deferred none)) (fun r e => by cases e; exact ⟨_, hK, rfl⟩)
    have k2 := cell_kept e2.cell (grownBy_putObj' _ D (.deferred none)) (fun r e => by cases e; exact ⟨_, hK, rfl⟩)
    have hne : ¬ cutF xs.flatten = xs := fun e => hnp (e ▸ hpre)
    refine ⟨.tuple #[strV (joinF xs).1, .bool (joinF xs).2], ?_, rfl, hB.trans (belowK_b (w := w) (Nat.le_refl _) W D _ _ (by simp at hD; omega) hK rfl rfl)⟩
    simp [results, Try.f11, go_sem, k1, k2, joinF, hne]
end Go.Proofs
