/-
  Trees: the law TreeTells: what comes after its calls.
-/
import Derived.Test.YtihhaeklacphbaaDoorTyM
set_option linter.unusedSimpArgs false
set_option linter.unusedVariables false
namespace Go.Sh.F
open Go.PathLaw Go.TreeLaw Go.Proofs
def sqs : SC → SC | .seq _ b => b | c => c
def sqf : SC → SC | .seq a _ => a | c => c
def lpb : SC → SC | .seq _ (.block _ (.loop a)) => a | c => c
def l3r : SC := sqs (sqs (sqs (sqs (sqs (sqs (sqs (sqs (sqs (sqs (sqs (sqs (sqs sf3.body))))))))))))
theorem u26 {v w : SV} {a b : List (List UInt8)} {st : List Ob} (hv : rdS v a) (hw : rdS w b) (hl : a.length ≤ 1099511627776) : O330 26 [v, w] st (.bool (decide (a = b))) st := (by repeat first | exact Or.inr ⟨rfl, rfl, v, w, a, b, hv, hw, hl, rfl, rfl⟩ | refine Or.inl ?_)
/-- A row that may be spoilt. -/
def Sp (st : List Ob) (v : SV) (n : Nat) : Prop := n ≤ 268435456 ∧ ((v = .nilS ∧ n = 0) ∨ ∃ id X, v = .slo id 0 n ∧ st[id]? = some (.cells X) ∧ X.length = n * 2 ∧ ∀ k, idOks k X = true)
theorem idOks_set {k : Nat} {s : List UInt8} : ∀ {X : List SV} (j : Nat), idOks k X = true → idOks k (X.set j (.str s)) = true
  | [], j, h => by simpa using h
  | x :: X, 0, h => by
    simp only [idOks, Bool.and_eq_true] at h
    simp only [List.set_cons_zero, idOks, idOk, h.2, Bool.and_self]
  | x :: X, j + 1, h => by
    simp only [idOks, Bool.and_eq_true] at h
    simp only [List.set_cons_succ, idOks, h.1, idOks_set j h.2, Bool.and_self]
theorem Sp.set {st : List Ob} {v : SV} {n id : Nat} {X Y : List SV} (h : Sp st v n) (hx : st[id]? = some (.cells X)) (hl : Y.length = X.length) (hy : ∀ k, idOks k Y = true) : Sp (setOb st id Y) v n := by
  obtain ⟨h1, h2 | ⟨id2, X2, h3, h4, h5, h6⟩⟩ := h
  · exact ⟨h1, .inl h2⟩
  · refine ⟨h1, .inr ?_⟩
    have hlt := (List.getElem?_eq_some_iff.1 hx).1
    by_cases e : id2 = id
    · subst e
      rw [hx] at h4
      cases h4
      exact ⟨id2, Y, h3, by unfold setOb; rw [List.getElem?_set_self hlt], by omega, hy⟩
    · exact ⟨id2, X2, h3, by unfold setOb; rw [List.getElem?_set_ne (fun a => e a.symm)]; exact h4, h5, h6⟩
theorem okSt_set {st : List Ob} {id : Nat} {Y : List SV} (h : okSt st) (hy : ∀ k, idOks k Y = true) : okSt (setOb st id Y) := by
  have hl : (setOb st id Y).length = st.length := by unfold setOb; rw [List.length_set]
  unfold okSt at h ⊢
  rw [hl]
  rw [List.all_eq_true] at h ⊢
  intro o ho
  unfold setOb at ho
  rcases List.mem_or_eq_of_mem_set ho with ho | rfl
  · exact h o ho
  · exact hy _
/-- One step of the spoiling. -/
theorem Sp.step {st : List Ob} {v : SV} {n k : Nat} {s : List UInt8} (h : Sp st v n) (hk : k < n) : ∃ id X, v = .slo id 0 n ∧ st[id]? = some (.cells X) ∧ X.length = n * 2 ∧ (∀ k, idOks k (X.set (k * 2) (.str s)) = true) ∧ (∀ j, idOks j (X.set (k * 2) (.str s)) = true) ∧ ev st (.store 1 false) [.ptr id (k * 2), .str s] = some (.undef, [], setOb st id (X.set (k * 2) (.str s))) := by
  obtain ⟨h1, ⟨_, h2⟩ | ⟨id, X, rfl, h4, h5, h6⟩⟩ := h
  · omega
  · refine ⟨id, X, rfl, h4, h5, fun j => idOks_set _ (h6 _), fun j => idOks_set _ (h6 _), ?_⟩
    have hlt : k * 2 < X.length := by omega
    rw [ev_stP (v := .str s) rfl, h4, stP_some, if_pos hlt]
end Go.Sh.F
