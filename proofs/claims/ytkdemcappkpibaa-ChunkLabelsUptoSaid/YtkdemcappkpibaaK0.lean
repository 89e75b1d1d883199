/-
  Functions that are walked by the kit's laws, as contracts of the shadow machine.
-/
import Derived.Test.YtkdemcappkpibaaT1
import Derived.Test.YtkdemcappkpibaaShZ
import Derived.Test.YtkdemcappkpibaaShTl
import Derived.Test.YtkdemcappkpibaaCj
set_option linter.unusedSimpArgs false
set_option linter.unusedVariables false
namespace Go.Sh.F
open Go.RowKit
open Go.Proofs (cutF cutL joinF strV StrsAt cutF_len)

theorem Sound.addR {P : Program} {O : Orc} (hS : Sound P O) {f : FuncId} {C : List SV → List Ob → SV → List Ob → Prop} (h : ∀ args st r st', C args st r st' → RealC P f args st r st') : Sound P (O.add f C) := by
  intro g args st r st' hO
  rcases hO with hO | ⟨rfl, hC⟩
  · exact hS g args st r st' hO
  · exact h args st r st' hC

/-- A function that only makes blocks of its own. -/
theorem real_of {P : Program} {f : FuncId} {args : List SV} {st : List Ob} {r : SV} (hp : plainB P f = true)
    (h : ∀ g w (vs : List Value), Inv g w st → (vs.length = args.length ∧ ∀ i (h : i < vs.length) (h' : i < args.length), V g w none (vs[i]'h) (args[i]'h')) →
      Calls P f vs.toArray w fun e w' => ∃ rv g', e = .returned rv ∧ Below w.heap.size w w' ∧ (∀ b, b < w.heap.size → g'.mark b = g.mark b) ∧ g'.ow = g.ow ∧ g'.ρ = g.ρ ∧ V g' w' retO rv r) : RealC P f args st r st := by
  refine ⟨plain_of hp, fun g w vs hcl hI hv => ?_⟩
  refine (h g w vs hI hv).mono ?_
  rintro e w' ⟨rv, g', he, hB, hm, ho, hρ, hr⟩
  have k : KeepAll g w g' w' := fun b hb => ⟨by rw [ho], hm b hb, hB.block b hb⟩
  have st' : St g w g' w' := k.st hB.os hB.tape hB.output hB.size (fun _ _ h => by rw [hρ]; exact h)
  refine ⟨rv, g', he, hI.mono st' hρ (fun id b hi => k b (hI.obj id b hi).1) (fun id i => k.root _), hr, k.fr st', fun b q hq t => ?_⟩
  rw [ho] at hq
  exact (hcl b q hq).1 t

/-- Strings as an argument. -/
def isStrs (st : List Ob) (v : SV) (l : List (List UInt8)) : Prop :=
  (v = .nilS ∧ l = []) ∨ (∃ fl, v = .sl (l.map .str) l.length fl) ∨ ∃ id off, v = .slo id off l.length ∧ rdCells st id off l.length = some (l.map .str)

theorem str_val {g : Gh} {w : World} {o : Option Owner} {v : Value} {l : List UInt8} (h : V g w o v (.str l)) : v = strV l := by
  obtain ⟨s, rfl, rfl⟩ := h.str_inv
  rfl

theorem strs_of {g : Gh} {w : World} {st : List Ob} {val : Value} {v : SV} {l : List (List UInt8)} (hI : Inv g w st) (hv : V g w none val v) (h : isStrs st v l) : ∃ p cap, val = .slice p l.length cap ∧ StrsAt w p cap l := by
  rcases h with ⟨rfl, rfl⟩ | ⟨fl, rfl⟩ | ⟨id, off, rfl, hr⟩
  · cases hv
    exact ⟨none, 0, rfl, Nat.le_refl _, fun h => absurd h (by simp)⟩
  · generalize hxs : l.map SV.str = xs at hv
    generalize hn : l.length = n at hv ⊢
    cases hv with
    | slz _ ad _ _ =>
      have hl0 : l = [] := List.eq_nil_of_length_eq_zero hn
      subst hl0
      exact ⟨some ad, 0, rfl, Nat.le_refl _, fun h => absurd h (by simp)⟩
    | sl _ b off _ cap _ _ f hlen hcell hone hx hf =>
      subst hn
      refine ⟨_, cap, rfl, hlen, fun h0 => ⟨b, off, rfl, lt_of_cell (hcell 0 (by rw [← hxs]; simpa using h0)), fun j hj => ?_⟩⟩
      have hj' : j < xs.length := by rw [← hxs]; simpa using hj
      rw [hcell j hj']
      have := hx j hj'
      simp only [← hxs, List.getElem_map] at this
      rw [str_val this]
  · cases hv with
    | slo _ _ _ _ b cap hlen hρ =>
      obtain ⟨h1, h2⟩ := ob_cells hI hρ hr
      refine ⟨_, cap, rfl, hlen, fun h0 => ⟨b, off, rfl, (hI.obj id b hρ).1, fun j hj => ?_⟩⟩
      obtain ⟨u, hu, _, hV⟩ := h2 j (by simpa using hj)
      simp only [List.getElem_map] at hV
      rw [hu, str_val hV]

def cutV (s : List UInt8) : SV := match cutF s with | [] => .nilS | l => .sl (l.map .str) l.length .ro
theorem cutV_rd (s : List UInt8) : rdL .str (cutV s) (cutF s) := by
  unfold cutV
  cases h : cutF s with
  | nil => exact .inl ⟨rfl, rfl⟩
  | cons a l => exact .inr rfl

/-- chunk.Cut. -/
def KCut : List SV → List Ob → SV → List Ob → Prop := fun args st r st' => st' = st ∧ ∃ s : List UInt8, s.length ≤ 1099511627776 ∧ args = [.str s] ∧ r = cutV s
theorem rCut (args : List SV) (st : List Ob) (r : SV) (st' : List Ob) (h : KCut args st r st') : RealC Proofs.Try.prog 14 args st r st' := by
  obtain ⟨rfl, s, hs, rfl, rfl⟩ := h
  refine real_of (by kernel_rfl) fun g w vs hI hv => ?_
  obtain ⟨hl, hV⟩ := hv
  obtain ⟨v, rfl⟩ : ∃ v, vs = [v] := List.length_eq_one_iff.1 hl
  have h0 := hV 0 (by simp) (by simp)
  simp only [List.getElem_cons_zero] at h0
  rw [str_val h0]
  refine (callsIn_wide.1 (Proofs.Try.Cut_in Fence.wide 3 trivial trivial trivial rfl (Nat.le_refl _) s hs w)).mono ?_
  rintro e w' ⟨v, rfl, ⟨hlen, hown⟩, hnil, hB⟩
  by_cases hc : cutF s = []
  · refine ⟨v, g, rfl, hB, fun _ _ => rfl, rfl, rfl, ?_⟩
    rw [hnil.2 hc]
    unfold cutV; rw [hc]
    exact .nilS _
  · rcases hown with ⟨rfl, h0⟩ | ⟨b, cap, cur, rfl, hb, hh, hcap, _, hsz, htake⟩
    · exact absurd (hnil.1 rfl) hc
    · refine ⟨_, { g with mark := fun x => if x = b then (cutF s).length else g.mark x }, rfl, hB, fun x hx => ?_, rfl, rfl, ?_⟩
      · show (if x = b then _ else _) = _
        rw [if_neg (by omega)]
      · have e : cutV s = .sl ((cutF s).map .str) (cutF s).length .ro := by
          unfold cutV
          cases h : cutF s with
          | nil => exact absurd h hc
          | cons a l => rfl
        rw [e]
        have hlen2 : ((cutF s).map SV.str).length = (cutF s).length := by simp
        refine .sl _ b 0 _ cap _ .ro (fun i => ((cutF s).map strV).getD i undef) hcap (fun i hi => ?_) (fun i hi => ?_) (fun i hi => ?_) (.inr ?_)
        · rw [hlen2] at hi
          rw [cell_of_row w' b (0 + i) cur 9 (0, 0) hh, ← htake, List.getD_eq_getElem?_getD, List.getElem?_take_of_lt (by omega)]
          simp only [Nat.zero_add, Array.getElem?_toList]
          rw [Array.getElem?_eq_getElem (by omega)]
          rfl
        · rw [hlen2] at hi
          rw [List.getD_eq_getElem?_getD, List.getElem?_map, List.getElem?_eq_getElem hi]
          rfl
        · rw [hlen2] at hi
          rw [List.getD_eq_getElem?_getD, List.getElem?_map, List.getElem?_eq_getElem hi]
          simp only [List.getElem_map, Option.map_some, Option.getD_some]
          exact .str _ _
        · rw [hlen2]
          show 0 + _ ≤ (if b = b then _ else _)
          rw [if_pos rfl]; omega

/-- chunk.Join. -/
def KJoin : List SV → List Ob → SV → List Ob → Prop := fun args st r st' => st' = st ∧ ∃ v l, isStrs st v l ∧ l.length ≤ 1099511627776 ∧ l.flatten.length ≤ 1099511627776 ∧ args = [v] ∧ r = .tup [.str (joinF l).1, .bool (joinF l).2]
theorem rJoin (args : List SV) (st : List Ob) (r : SV) (st' : List Ob) (h : KJoin args st r st') : RealC Proofs.Try.prog 11 args st r st' := by
  obtain ⟨rfl, v, l, hs, h1, h2, rfl, rfl⟩ := h
  refine real_of (by kernel_rfl) fun g w vs hI hv => ?_
  obtain ⟨hl, hV⟩ := hv
  obtain ⟨u, rfl⟩ : ∃ u, vs = [u] := List.length_eq_one_iff.1 hl
  have h0 := hV 0 (by simp) (by simp)
  simp only [List.getElem_cons_zero] at h0
  obtain ⟨p, cap, rfl, hat⟩ := strs_of hI h0 hs
  refine (Proofs.Try.Join_calls w p cap l hat h1 h2).mono ?_
  rintro e w' ⟨rfl, hB⟩
  refine ⟨_, g, rfl, hB, fun _ _ => rfl, rfl, rfl, .tup _ _ _ rfl fun i h h' => ?_⟩
  match i, h with
  | 0, _ => exact .str _ _
  | 1, _ => exact .bool _ _
end Go.Sh.F
