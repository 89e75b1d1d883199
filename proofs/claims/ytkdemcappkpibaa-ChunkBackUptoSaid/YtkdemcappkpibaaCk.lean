/-
  The iterator over a string's pieces, and what is collected of it and held against it: by the kit's laws on ranges over functions.
-/
import Derived.RangeFuncBox
import Derived.RangeFuncFrom
import Derived.RangeFuncLeaves
import Derived.Shelf.Abstract
import Derived.WalkKit
import Derived.OwnWalkIn
import Derived.TacticsInMore
import Derived.LoopNIn
import Derived.LoopIn
import Derived.Maps.AppendAt
import Derived.Test.YtkdemcappkpibaaProg
namespace Go.Proofs
open Go.RowKit Go.Shelf
attribute [local go_sem] Oper.semAt_some

/-- A string's pieces. -/
def cutL : Nat → List UInt8 → List (List UInt8)
  | 0, _ => []
  | n + 1, s => if s = [] then [] else s.take 64 :: cutL n (s.drop 64)
def cutF (s : List UInt8) : List (List UInt8) := cutL s.length s
theorem cutL_eq : ∀ (n m : Nat) (s : List UInt8), s.length ≤ n → s.length ≤ m → cutL n s = cutL m s
  | 0, 0, _, _, _ => rfl
  | 0, m + 1, s, h, _ => by
    have : s = [] := List.eq_nil_of_length_eq_zero (by omega)
    subst this; simp [cutL]
  | n + 1, 0, s, _, h => by
    have : s = [] := List.eq_nil_of_length_eq_zero (by omega)
    subst this; simp [cutL]
  | n + 1, m + 1, s, h, k => by
    simp only [cutL]
    by_cases hs : s = []
    · rw [if_pos hs, if_pos hs]
    · rw [if_neg hs, if_neg hs, cutL_eq n m (s.drop 64) (by have := List.length_pos_iff.2 hs; simp; omega) (by have := List.length_pos_iff.2 hs; simp; omega)]
theorem cutF_nil : cutF [] = [] := rfl
theorem cutF_cons {s : List UInt8} (h : s ≠ []) : cutF s = s.take 64 :: cutF (s.drop 64) := by
  unfold cutF
  have hp := List.length_pos_iff.2 h
  obtain ⟨n, hn⟩ : ∃ n, s.length = n + 1 := ⟨s.length - 1, by omega⟩
  rw [hn]
  simp only [cutL]
  rw [if_neg h, cutL_eq n (s.drop 64).length (s.drop 64) (by simp; omega) (Nat.le_refl _)]
theorem cutL_len : ∀ (n : Nat) (s : List UInt8), (cutL n s).length ≤ n
  | 0, _ => Nat.le_refl _
  | n + 1, s => by
    simp only [cutL]
    split
    · simp
    · have := cutL_len n (s.drop 64)
      simp only [List.length_cons]; omega
theorem cutF_len (s : List UInt8) : (cutF s).length ≤ s.length := cutL_len _ s
abbrev strV (l : List UInt8) : Value := .string ⟨l.toArray⟩
def strLen : Value → Nat | .string s => s.size | _ => 0
theorem ext_eq (r : List UInt8) (a b : Nat) : (⟨r.toArray⟩ : ByteArray).extract a b = ⟨((r.take b).drop a).toArray⟩ := by
  apply ByteArray.ext
  rw [ByteArray.data_extract]
  apply Array.ext'
  simp [List.drop_take]

set_option maxRecDepth 100000 in
set_option maxHeartbeats 1000000 in
theorem Try.pieces1_in (F : Fence) (n : Nat) (h27 : F.fn 27) (hro : F.round = none) (hn : 1 ≤ n) (l Bn n₀ : Nat) (s : List UInt8) (hs : s.length ≤ 1099511627776) (J Jx : List (List UInt8) → World → Prop)
    (hY : ∀ pre x W, J pre W → pre.length < (cutF s).length → YieldAt F (n - 1) Try.prog l #[strV x] W fun e W' =>
      (e = .returned (.bool true) ∧ J (pre ++ [x]) W' ∧ Below n₀ W W') ∨ (e = .returned (.bool false) ∧ Jx (pre ++ [x]) W'))
    (W : World) (hBn : W.cell? ⟨Bn, 0, none⟩ = some (strV s)) (h0 : J [] W) :
    CallsIn F n Try.prog 27 #[.func (.yield l) #[] #[], .pointer (some ⟨Bn, 0, none⟩)] W fun e W' => (∃ v, e = .returned v) ∧
      ((∃ ys, ys = cutF s ∧ J ys W') ∨ (∃ pre, pre <+: cutF s ∧ Jx pre W')) := by
  refine callsIn_of_wp Try.func27 rfl h27 ?_ hro
  simp only [Try.ntmps27, List.size_toArray, List.length_cons, List.length_nil, Nat.reduceAdd, Nat.reduceSub, Array.replicate_succ, Array.replicate_zero, List.push_toArray, List.append_toArray, List.nil_append, List.cons_append]
  gi_wp2
  gi_loopw [3] (fun p wr => ∃ (pre : List (List UInt8)) (r : List UInt8), p = strV r ∧ r.length ≤ 1099511627776 ∧ cutF s = pre ++ cutF r ∧ J pre wr)
    (fun p wr => strLen p)
  case atStart =>
    exact ⟨[], s, rfl, hs, rfl, h0⟩
  case round =>
    obtain ⟨pre, r, rfl, hl, hx, hJs⟩ := hrel
    by_cases hr : r = []
    · subst hr
      gi_wp2
      go_end0
      exact ⟨⟨_, rfl⟩, .inl ⟨pre, by rw [hx, cutF_nil]; simp, hJs⟩⟩
    · rw [cutF_cons hr] at hx
      obtain ⟨fn, tmps, assign, body, hy, hR⟩ := hY pre (r.take 64) wr hJs (by rw [hx]; simp)
      have hp := List.length_pos_iff.2 hr
      have he : r.isEmpty = false := by cases r <;> simp_all
      by_cases h64 : (64 : Int) < r.length
      · have e1 : strV (r.take 64) = .string ((⟨r.toArray⟩ : ByteArray).extract 0 64) := by rw [ext_eq]; simp
        rw [e1] at hy
        gi_wp2
        refine hR.mono ?_
        rintro e W3 (⟨rfl, hJ3, hk3⟩ | ⟨rfl, hJx3⟩)
        · gi_wp2
          go_roundw
          case rel => exact ⟨pre ++ [r.take 64], r.drop 64, by rw [ext_eq, List.take_of_length_le (by first | exact Nat.le_refl _ | simp)], by simp; omega, by simp [hx], hJ3⟩
          case measure =>
            show strLen (.string _) < strLen (.string _)
            rw [ext_eq]
            simp [strLen, ByteArray.size]
            omega
        · gi_wp2
          refine bodyPost_ret (results_none rfl _ _ _) rfl ?_
          exact ⟨⟨_, rfl⟩, .inr ⟨pre ++ [r.take 64], ⟨cutF (r.drop 64), by simp [hx]⟩, hJx3⟩⟩
      · have e1 : strV (r.take 64) = .string ((⟨r.toArray⟩ : ByteArray).extract 0 r.length) := by rw [ext_eq, List.take_of_length_le (by omega)]; simp
        rw [e1] at hy
        gi_wp2
        refine hR.mono ?_
        rintro e W3 (⟨rfl, hJ3, hk3⟩ | ⟨rfl, hJx3⟩)
        · gi_wp2
          go_roundw
          case rel => exact ⟨pre ++ [r.take 64], r.drop 64, by rw [List.drop_eq_nil_of_le (by omega)]; rfl, by simp; omega, by simp [hx], hJ3⟩
          case measure =>
            show strLen (.string _) < strLen (.string _)
            exact hp
        · gi_wp2
          refine bodyPost_ret (results_none rfl _ _ _) rfl ?_
          exact ⟨⟨_, rfl⟩, .inr ⟨pre ++ [r.take 64], ⟨cutF (r.drop 64), by simp [hx]⟩, hJx3⟩⟩

set_option maxHeartbeats 1000000 in
theorem Try.pieces_in (F : Fence) (n : Nat) (h21 : F.fn 21) (hro : F.round = none) (s : ByteArray) (w : World) :
    CallsIn F n Try.prog 21 #[.string s] w fun e w' => e = .returned (.func (.func 27) #[] #[.pointer (some ⟨w.heap.size, 0, none⟩)]) ∧ w' = w.alloc (.cells #[.string s] 9) := by
  refine callsIn_of_wp Try.func21 rfl h21 ?_ hro
  simp only [Try.ntmps21, List.size_toArray, List.length_cons, List.length_nil, Nat.reduceAdd, Nat.reduceSub, Array.replicate_succ, Array.replicate_zero, List.push_toArray, List.append_toArray, List.nil_append, List.cons_append]
  gi_wp2
  go_ret
  exact ⟨rfl, rfl⟩

theorem Try.pieces_stops (F : Fence) (n : Nat) (h27 : F.fn 27) (hro : F.round = none) (hn : 1 ≤ n) (Bn n₀ : Nat) (s : List UInt8) (hs : s.length ≤ 1099511627776) (w : World) (hBn : Bn < w.heap.size)
    (hc : w.cell? ⟨Bn, 0, none⟩ = some (strV s)) :
    SeqStopsK F n Try.prog 27 #[.pointer (some ⟨Bn, 0, none⟩)] (fun x : List UInt8 => #[strV x]) (Below n₀) (fun ys => ys = cutF s) (fun pre => pre <+: cutF s) (cutF s).length w := fun l J Jx W hW _ _ hY h0 =>
  Try.pieces1_in F n h27 hro hn l Bn n₀ s hs J Jx hY W ((hW.cell (p := ⟨Bn, 0, none⟩) hBn).trans hc) h0
theorem Try.info9 : (Try.prog.info? 9).map (fun i => (i.zero, i.size, i.bytes)) = some (some (.string ⟨#[]⟩), 1, 16) := by kernel_rfl

set_option maxRecDepth 100000 in
set_option maxHeartbeats 2000000 in
theorem Try.Cut_in (F : Fence) (n : Nat) (h14 : F.fn 14) (h21 : F.fn 21) (h27 : F.fn 27) (hro : F.round = none) (hn : 3 ≤ n) (s : List UInt8) (hs : s.length ≤ 1099511627776) (w : World) :
    CallsIn F n Try.prog 14 #[strV s] w fun e W' => ∃ v, e = .returned v ∧ W'.ownsRow w.heap.size 9 1 v (cutF s).length ((cutF s).map strV) ∧ (v = .slice none 0 0 ↔ cutF s = []) ∧ Below w.heap.size w W' := by
  have h1 : 1 ≤ n := by omega
  have hcl := cutF_len s
  obtain ⟨i0, hi, hz0, hz1, hz2⟩ := info_parts Try.info9
  refine callsIn_of_wp_marks Try.func14 rfl h14 ?_ hro
  simp only [Try.ntmps14, List.size_toArray, List.length_cons, List.length_nil, Nat.reduceAdd, Nat.reduceSub, Array.replicate_succ, Array.replicate_zero, List.push_toArray, List.append_toArray, List.nil_append, List.cons_append]
  gi_wp2_with (gi_at_call 21; refine (Try.pieces_in F (n - 1) h21 hro _ _).mono ?_; rintro e w' ⟨rfl, rfl⟩)
  have bO := Boxed.new w 22 (.slice none 0 0)
  have bN := Boxed.new (w.alloc (.cells #[.slice none 0 0] 22)) 9 (strV s)
  rw [World.size_alloc] at bN
  have hB0 : Below w.heap.size w ((w.alloc (.cells #[.slice none 0 0] 22)).alloc (.cells #[strV s] 9)) := ((Below.refl _ w).alloc (Nat.le_refl _) _).alloc (by simp) _
  refine wpIn_rangeFunc_ownG hro h1 (gf := 27) (lb := #[.pointer (some ⟨w.heap.size + 1, 0, none⟩)]) rfl h27 (enters_of Try.func27 (by kernel_rfl) rfl)
    (Try.pieces_stops F (n - 1) h27 hro (by omega) (w.heap.size + 1) w.heap.size s hs _ (by simp) bN.cell) belowK_t (belowK_b (by simp; omega)) (Below.refl _ _) (fun _ => rfl)
    (fun pre W => (∃ v, Boxed W w.heap.size 22 v ∧ W.ownsRow w.heap.size 9 1 v pre.length (pre.map strV) ∧ (v = .slice none 0 0 ↔ pre = [])) ∧ Below w.heap.size w W)
    (fun _ _ _ => False)
    (OwnFrom.and (Own.from (holdsRow_own w.heap.size w.heap.size 22 9 1 (fun pre => pre.length) (fun pre => pre.map strV) (fun pre v => v = .slice none 0 0 ↔ pre = [])) _) (ownFrom_below (Nat.le_refl _) (by simp; omega)))
    (fun _ _ _ _ _ hs _ _ => hs)
    ⟨⟨_, bO.alloc _, World.ownsRow_nil _ _ _ _, by simp⟩, hB0⟩
    (fun x => { tmps := #[strV s, undef, .slice none 0 0, .pointer (some ⟨w.heap.size, 0, none⟩), strV x, strV s, .func (.func 27) #[] #[.pointer (some ⟨w.heap.size + 1, 0, none⟩)], strV x, undef, undef, undef, undef, undef], defers := [] }) ?assign ?body ?done ?stop
  case assign =>
    intro l x W K hK
    gi_wp2
    exact hK
  case body =>
    rintro l pre x W ⟨⟨v, hv, hrow, hnil⟩, hB⟩ hlt
    have hc := hv.cell
    gi_wp2_with (gi_at_builtin; refine wpListIn_append_own _ rfl _ _ 22 rfl w.heap.size 9 i0 (.string ⟨#[]⟩) 1 16 Try.underlying22 hi hz0 hz1 hz2 rfl (by decide) _ _ _ rfl (hrow.alloc _) ⟨W.heap.size, 0, none⟩ 1 1 [strV x] rfl rfl (cell_one_new _ _ _) (by simp [Value.oneCell']) (by unfold maxLen; omega) (by omega) (by have := hB.size; simp; omega) ?_; intro v' w1 hown' hgrow _; obtain ⟨g', cap', rfl⟩ := ownsRow_succ hown'; obtain ⟨hv1, hv2, hr2, hk2, hb2⟩ := hv.appended (by decide) hrow hB.size (Nat.le_refl _) hown' hgrow; have hc1 := hv1.cell; have hf1 := hv1.frozen)
    exact ⟨hk2.from _, hb2, ⟨_, hv2, by simpa using hr2, by simp⟩, hB.trans hb2⟩
  case done =>
    rintro D ys W hD rfl ⟨⟨v, hv, hrow, hnil⟩, hB⟩ hK
    have hc := hv.cell
    gi_wp2
    refine ⟨by simp, .inl ⟨_, _, rfl, run_takeDeferred hK, ?_⟩⟩
    exact ⟨_, results_tmp rfl _ _ _, v, rfl, ownsRow_putObj hrow _ hK rfl, hnil, hB.trans (belowK_b (w := w) (Nat.le_refl _) W D _ _ (by simp at hD; omega) hK rfl rfl)⟩
  case stop =>
    rintro D c pre W _ _ h _
    exact h.elim
end Go.Proofs
