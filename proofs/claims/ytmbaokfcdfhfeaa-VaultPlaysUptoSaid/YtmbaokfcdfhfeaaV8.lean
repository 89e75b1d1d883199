/-
  Calls as arguments: of a reading, in the shadow machine.
-/
import Derived.Test.YtmbaokfcdfhfeaaV5
import Derived.Test.YtmbaokfcdfhfeaaBulk
import Derived.Test.YtmbaokfcdfhfeaaShArg
set_option linter.unusedSimpArgs false
set_option linter.unusedVariables false
open Go.ChangeShapes Go.WideShapes
namespace Go.Sh.F
open Go.Proofs.Ytmbaokfcdfhfeaa
def valsC (c : Cl) : List Value := [.int .i64 c.which, .int .i64 c.key, .int .i64 c.num, .string ⟨c.ad.toArray⟩, .string ⟨c.plain.toArray⟩]
def datC {H : Type} (c : Cl) : DataW H := .agg [.lit (.int .i64 c.which), .lit (.int .i64 c.key), .lit (.int .i64 c.num), .lit (.string c.ad), .lit (.string c.plain)]
section
variable {H : Type} {enc : TypeId × Value → H} {P : Program} {w : World} {base : Nat} {held : Bool} {r : Reach} {b0 : Nat} {t e : TypeId} {v : Value} {d : DataW H} {ps : List MemPlace}
def goodC (c : Cl) : Prop := -9223372036854775808 ≤ c.key ∧ c.key ≤ 9223372036854775807
/-- What is asked of the type. -/
structure TyC (P : Program) (t : TypeId) : Prop where
  size : P.cellsOf t = 5
  und : ∃ f0 f1 f2 f3 f4 : Field, P.underlying t = some (.struct #[f0, f1, f2, f3, f4]) ∧ (f0.offset = 0 ∧ f1.offset = 1 ∧ f2.offset = 2 ∧ f3.offset = 3 ∧ f4.offset = 4) ∧
    (P.cellsOf f0.type = 1 ∧ P.cellsOf f1.type = 1 ∧ P.cellsOf f2.type = 1 ∧ P.cellsOf f3.type = 1 ∧ P.cellsOf f4.type = 1) ∧
    P.underlying f0.type = some (.int .i64) ∧ P.underlying f1.type = some (.int .i64) ∧ P.underlying f2.type = some (.int .i64) ∧ P.underlying f3.type = some .string ∧ P.underlying f4.type = some .string
theorem open_call (ht : TyC P t) {n : Nat} {cs : List Value} {x : DataW H × List MemPlace} (h : DataW.trod enc P w base (fun _ => true) held n t cs = some x) : ∃ c : Cl, cs = valsC c ∧ x.1 = datC c ∧ goodC c := by
  obtain ⟨hc, f0, f1, f2, f3, f4, hu, ⟨o0, o1, o2, o3, o4⟩, ⟨z0, z1, z2, z3, z4⟩, u0, u1, u2, u3, u4⟩ := ht
  obtain ⟨xs, m, _, rfl, hl, hlen, hf⟩ := DataW.trod_struct hu h
  rw [hc] at hl
  match cs, hl, xs, hlen with
  | [a0, a1, a2, a3, a4], _, [y0, y1, y2, y3, y4], _ =>
    have g0 := hf 0 f0 rfl
    have g1 := hf 1 f1 rfl
    have g2 := hf 2 f2 rfl
    have g3 := hf 3 f3 rfl
    have g4 := hf 4 f4 rfl
    simp only [o0, o1, o2, o3, o4, z0, z1, z2, z3, z4, List.drop_zero, List.drop_succ_cons, List.take_succ_cons, List.take_zero, List.getElem?_cons_zero, List.getElem?_cons_succ] at g0 g1 g2 g3 g4
    obtain ⟨n0, e0, q0, _⟩ := DataW.trod_int u0 g0
    obtain ⟨n1, e1, q1, w1⟩ := DataW.trod_int u1 g1
    obtain ⟨n2, e2, q2, _⟩ := DataW.trod_int u2 g2
    obtain ⟨s3, e3, q3, _⟩ := DataW.trod_string u3 g3
    obtain ⟨s4, e4, q4, _⟩ := DataW.trod_string u4 g4
    simp only [List.cons.injEq, and_true] at e0 e1 e2 e3 e4
    subst e0 e1 e2 e3 e4 q0 q1 q2 q3 q4
    exact ⟨⟨n0, n1, n2, s3.data.toList, s4.data.toList⟩, rfl, rfl, by simp only [Lit.wf, Bool.and_eq_true, decide_eq_true_eq] at w1; exact w1⟩
theorem val_call {N : Nat} (c : Cl) (j : Nat) (a : Value) (b : SV) (ha : (valsC c)[j]? = some a) (hb : (fC c)[j]? = some b) : a.oneCell' = true ∧ V (g0 N) w none a b := by
  match j with
  | 0 => simp [valsC] at ha; simp [fC] at hb; subst ha hb; exact ⟨rfl, .int _ _ _⟩
  | 1 => simp [valsC] at ha; simp [fC] at hb; subst ha hb; exact ⟨rfl, .int _ _ _⟩
  | 2 => simp [valsC] at ha; simp [fC] at hb; subst ha hb; exact ⟨rfl, .int _ _ _⟩
  | 3 => simp [valsC] at ha; simp [fC] at hb; subst ha hb; exact ⟨rfl, .str _ _⟩
  | 4 => simp [valsC] at ha; simp [fC] at hb; subst ha hb; exact ⟨rfl, .str _ _⟩
  | j + 5 => simp [valsC] at ha
theorem arg_calls (ht : P.underlying t = some (.slice e)) (he : TyC P e) (hval : Value.okWide P w r b0 t v) (hd : DataW.Trod enc P w base (fun _ => true) held t v d ps) :
    ∃ (l : List Cl) (sv : SV) (N0 : Nat), rdR fC sv l ∧ (∀ N, N0 ≤ N → V (g0 N) w none v sv) ∧ (∀ z ∈ l, goodC z) ∧ l.length ≤ maxLen ∧ ((d = .nil ∧ l = []) ∨ ∃ sp, d = .slice (l.map datC) sp) :=
  arg_rows (vals := valsC) ht he.size (by omega) (fun n cs x h => open_call he h) (fun z => ⟨rfl, rfl⟩) (fun N z j a b ha hb => val_call z j a b ha hb) hval hd
theorem arg_call (ht : TyC P t) (hval : Value.okWide P w r b0 t v) (hd : DataW.Trod enc P w base (fun _ => true) held t v d ps) : ∃ c : Cl, (∀ N, V (g0 N) w none v (.agg (fC c))) ∧ d = datC c := by
  obtain ⟨f0, f1, f2, f3, f4, hu, _⟩ := ht.und
  obtain ⟨cs, rfl, hsz⟩ := okWide_struct hu hval
  obtain ⟨n, hn⟩ := hd
  obtain ⟨c, h1, h2, _⟩ := open_call ht hn
  refine ⟨c, fun N => ?_, h2⟩
  change cs.toList = valsC c at h1
  have hcl : cs.size = 5 := by rw [← Array.length_toList, h1]; rfl
  refine .agg none cs (fC c) hcl (fun i hi => ?_) (fun i hi hi' => ?_)
  · have hi5 : i < (fC c).length := by rw [hcl] at hi; exact hi
    have ha : (valsC c)[i]? = some cs[i] := by rw [← h1]; simp [hi]
    exact (val_call (N := N) (w := w) c i _ _ ha (List.getElem?_eq_getElem hi5)).1
  · have ha : (valsC c)[i]? = some cs[i] := by rw [← h1]; simp [hi]
    exact (val_call (N := N) (w := w) c i _ _ ha (List.getElem?_eq_getElem hi')).2
end
theorem bulk_call {H : Type} {c : Cl} {d : DataW H} (h : d = datC c) : c.ad.length ≤ Rows.uptoBulk d ∧ c.plain.length ≤ Rows.uptoBulk d := by
  subst h
  simp only [datC, Rows.uptoBulk, Rows.uptoBulkAll]
  omega
theorem bulk_calls {H : Type} {l : List Cl} {d : DataW H} (h : (d = .nil ∧ l = []) ∨ ∃ sp, d = .slice (l.map datC) sp) : ∀ c ∈ l, c.ad.length ≤ Rows.uptoBulk d ∧ c.plain.length ≤ Rows.uptoBulk d := by
  rcases h with ⟨rfl, rfl⟩ | ⟨sp, rfl⟩
  · simp
  · have key : ∀ l : List Cl, ∀ c ∈ l, c.ad.length ≤ Rows.uptoBulkAll (l.map (datC (H := H))) ∧ c.plain.length ≤ Rows.uptoBulkAll (l.map (datC (H := H))) := by
      intro l
      induction l with
      | nil => simp
      | cons a l ih =>
        intro c hc
        simp only [List.map_cons, Rows.uptoBulkAll]
        rcases List.mem_cons.1 hc with rfl | hc
        · have := bulk_call (H := H) (c := c) rfl; omega
        · have := ih c hc; omega
    intro c hc
    have := key l c hc
    simp only [Rows.uptoBulk]
    omega
end Go.Sh.F
