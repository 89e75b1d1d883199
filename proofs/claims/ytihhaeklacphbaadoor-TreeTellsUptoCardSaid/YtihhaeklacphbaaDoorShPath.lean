/-
  The plain laws of names and paths: lists of bytes alone.
-/
import Derived.WalkKit
namespace Go.PathLaw

/-! Bytes in order. -/
theorem less_eq : ∀ (x y : List UInt8), Op.bytesLess x y = decide (x < y)
  | [], [] => by simp [Op.bytesLess]
  | _ :: _, [] => by simp [Op.bytesLess]
  | [], _ :: _ => by simp [Op.bytesLess]
  | a :: x, b :: y => by
    rw [Op.bytesLess, less_eq x y]
    simp only [List.cons_lt_cons_iff]
    by_cases h1 : a < b <;> by_cases h2 : a = b <;> by_cases h3 : x < y <;> simp [h1, h2, h3]
def lt (x y : List UInt8) : Bool := Op.bytesLess x y
theorem lt_iff (x y : List UInt8) : lt x y = true ↔ x < y := by rw [lt, less_eq]; simp
theorem lt_irrefl (x : List UInt8) : lt x x = false := by
  rw [lt, less_eq]; simp
theorem lt_trans {x y z : List UInt8} (h : lt x y = true) (k : lt y z = true) : lt x z = true := by
  rw [lt_iff] at *; exact List.lt_trans h k
theorem lt_asymm {x y : List UInt8} (h : lt x y = true) : lt y x = false := by
  cases hb : lt y x with
  | false => rfl
  | true => have := lt_trans h hb; rw [lt_irrefl] at this; cases this
theorem lt_total : ∀ (x y : List UInt8), x = y ∨ lt x y = true ∨ lt y x = true
  | [], [] => .inl rfl
  | [], _ :: _ => .inr (.inl rfl)
  | _ :: _, [] => .inr (.inr rfl)
  | a :: x, b :: y => by
    have ih := lt_total x y
    show a :: x = b :: y ∨ (decide (a < b) || (a == b && Op.bytesLess x y)) = true ∨ (decide (b < a) || (b == a && Op.bytesLess y x)) = true
    have h : a < b ∨ a = b ∨ b < a := by
      rcases Nat.lt_trichotomy a.toNat b.toNat with h | h | h
      · exact .inl (UInt8.lt_iff_toNat_lt.2 h)
      · exact .inr (.inl (UInt8.toNat_inj.1 h))
      · exact .inr (.inr (UInt8.lt_iff_toNat_lt.2 h))
    rcases h with h | rfl | h
    · exact .inr (.inl (by simp [h]))
    · rcases ih with rfl | ih | ih
      · exact .inl rfl
      · exact .inr (.inl (by rw [show Op.bytesLess x y = true from ih]; simp))
      · exact .inr (.inr (by rw [show Op.bytesLess y x = true from ih]; simp))
    · exact .inr (.inr (by simp [h]))
theorem lt_app (x y : List UInt8) (h : y ≠ []) : lt x (x ++ y) = true := by
  induction x with
  | nil => cases y with
    | nil => exact absurd rfl h
    | cons a y => rfl
  | cons a x ih =>
    show (decide (a < a) || (a == a && Op.bytesLess x (x ++ y))) = true
    simp only [beq_self_eq_true, Bool.true_and]
    rw [show Op.bytesLess x (x ++ y) = true from ih, Bool.or_true]

/-! What stands between strokes. -/
def spl : List UInt8 → List (List UInt8)
  | [] => [[]]
  | c :: r => if c = 47 then [] :: spl r else match spl r with
    | h :: t => (c :: h) :: t
    | [] => [[c]]
def jn : List (List UInt8) → List UInt8
  | [] => []
  | [x] => x
  | x :: y :: r => x ++ 47 :: jn (y :: r)
theorem spl_ne : ∀ s, spl s ≠ []
  | [] => by simp [spl]
  | c :: r => by
    unfold spl
    split
    · simp
    · split <;> simp
theorem spl_cons {c : UInt8} {r h : List UInt8} {t : List (List UInt8)} (hc : c ≠ 47) (hr : spl r = h :: t) : spl (c :: r) = (c :: h) :: t := by
  rw [spl, if_neg hc, hr]
theorem spl_stroke (r : List UInt8) : spl (47 :: r) = [] :: spl r := by rw [spl, if_pos rfl]
theorem spl_app (x r : List UInt8) (hx : 47 ∉ x) : spl (x ++ 47 :: r) = x :: spl r := by
  induction x with
  | nil => rw [List.nil_append, spl_stroke]
  | cons c x ih =>
    have h1 : c ≠ 47 := fun e => hx (by simp [e])
    have h2 : 47 ∉ x := fun e => hx (List.mem_cons_of_mem _ e)
    rw [List.cons_append, spl_cons h1 (ih h2)]
theorem spl_plain (x : List UInt8) (hx : 47 ∉ x) : spl x = [x] := by
  induction x with
  | nil => rfl
  | cons c x ih =>
    have h1 : c ≠ 47 := fun e => hx (by simp [e])
    have h2 : 47 ∉ x := fun e => hx (List.mem_cons_of_mem _ e)
    rw [spl_cons h1 (ih h2)]
theorem spl_no : ∀ (s : List UInt8), ∀ x ∈ spl s, (47 : UInt8) ∉ x
  | [], x, hx => by simp [spl] at hx; subst hx; simp
  | c :: r, x, hx => by
    have ih := spl_no r
    by_cases hc : c = 47
    · subst hc
      rw [spl_stroke] at hx
      rcases List.mem_cons.1 hx with rfl | hx
      · simp
      · exact ih x hx
    · cases hs : spl r with
      | nil => exact absurd hs (spl_ne r)
      | cons h t =>
        rw [spl_cons hc hs] at hx
        rw [hs] at ih
        rcases List.mem_cons.1 hx with rfl | hx
        · intro hm
          rcases List.mem_cons.1 hm with e | hm
          · exact hc e.symm
          · exact ih h List.mem_cons_self hm
        · exact ih x (List.mem_cons_of_mem _ hx)
theorem jn_cons {x : List UInt8} {r : List (List UInt8)} (h : r ≠ []) : jn (x :: r) = x ++ 47 :: jn r := by
  cases r with
  | nil => exact absurd rfl h
  | cons y r => rfl
theorem jn_spl : ∀ s, jn (spl s) = s
  | [] => rfl
  | c :: r => by
    have ih := jn_spl r
    by_cases hc : c = 47
    · subst hc
      rw [spl_stroke, jn_cons (spl_ne r), ih]; rfl
    · cases hs : spl r with
      | nil => exact absurd hs (spl_ne r)
      | cons h t =>
        rw [spl_cons hc hs]
        rw [hs] at ih
        cases t with
        | nil => simp only [jn] at ih ⊢; rw [ih]
        | cons y t => simp only [jn] at ih ⊢; rw [← ih]; rfl
theorem spl_jn : ∀ (l : List (List UInt8)), l ≠ [] → (∀ x ∈ l, (47 : UInt8) ∉ x) → spl (jn l) = l
  | [], h, _ => absurd rfl h
  | [x], _, h => spl_plain x (h x (by simp))
  | x :: y :: r, _, h => by
    rw [jn, spl_app x _ (h x (by simp)), spl_jn (y :: r) (by simp) (fun z hz => h z (List.mem_cons_of_mem _ hz))]
theorem spl_app_any (x r : List UInt8) : (spl (x ++ 47 :: r)) = spl x ++ spl r := by
  induction x with
  | nil => rw [List.nil_append, spl_stroke]; rfl
  | cons c x ih =>
    by_cases hc : c = 47
    · subst hc
      rw [List.cons_append, spl_stroke, spl_stroke, ih]; rfl
    · cases hs : spl x with
      | nil => exact absurd hs (spl_ne x)
      | cons h t =>
        rw [List.cons_append, spl_cons hc (by rw [ih, hs]; rfl), spl_cons hc hs]; rfl
theorem spl_len_pos (s : List UInt8) : 1 ≤ (spl s).length := List.length_pos_iff.2 (spl_ne s)
/-- As many pieces as names: no name has a stroke. -/
theorem spl_len : ∀ (l : List (List UInt8)), l ≠ [] → l.length ≤ (spl (jn l)).length ∧ ((spl (jn l)).length = l.length → spl (jn l) = l)
  | [], h => absurd rfl h
  | [x], _ => by
    refine ⟨spl_len_pos x, fun h => ?_⟩
    simp only [jn, List.length_cons, List.length_nil] at h ⊢
    obtain ⟨y, hy⟩ := List.length_eq_one_iff.1 h
    have := jn_spl x
    rw [hy] at this ⊢
    simp only [jn] at this
    rw [this]
  | x :: y :: r, _ => by
    obtain ⟨h1, h2⟩ := spl_len (y :: r) (by simp)
    have h3 := spl_len_pos x
    simp only [jn, spl_app_any, List.length_append, List.length_cons] at h1 h2 ⊢
    refine ⟨by omega, fun h => ?_⟩
    have e1 : (spl x).length = 1 := by omega
    obtain ⟨z, hz⟩ := List.length_eq_one_iff.1 e1
    have hj := jn_spl x
    rw [hz] at hj
    simp only [jn] at hj
    rw [h2 (by omega), hz, hj]; rfl

/-! Names. -/
def okB (c : UInt8) : Bool := decide (97 ≤ c.toNat) && decide (c.toNat ≤ 122) || decide (48 ≤ c.toNat) && decide (c.toNat ≤ 57) || c == 46 || c == 45
def nameB (s : List UInt8) : Bool := decide (1 ≤ s.length) && decide (s.length ≤ 12) && s != [46] && s != [46, 46] && s.all okB
def namesOf (s : List UInt8) : List (List UInt8) := if (spl s).length ≤ 4 ∧ (spl s).all nameB = true then spl s else []
def rightB (s : List UInt8) : Bool := decide ((spl s).length ≤ 4) && (spl s).all nameB
theorem names_right {s : List UInt8} (h : rightB s = true) : namesOf s = spl s := by
  simp only [rightB, Bool.and_eq_true, decide_eq_true_eq] at h
  rw [namesOf, if_pos h]
theorem names_wrong {s : List UInt8} (h : rightB s = false) : namesOf s = [] := by
  rw [namesOf, if_neg]
  rintro ⟨h1, h2⟩
  rw [rightB, h2, Bool.and_true, decide_eq_true h1] at h
  cases h
theorem right_names (s : List UInt8) : rightB s = decide (0 < (namesOf s).length) := by
  cases h : rightB s with
  | true => rw [names_right h]; simp [spl_ne, List.length_pos_iff]
  | false => rw [names_wrong h]; simp
theorem okB_stroke : okB 47 = false := by decide
theorem name_no {x : List UInt8} (h : nameB x = true) : (47 : UInt8) ∉ x := by
  intro hm
  simp only [nameB, Bool.and_eq_true] at h
  have := List.all_eq_true.1 h.2 47 hm
  rw [okB_stroke] at this; cases this
def joinP (l : List (List UInt8)) : List UInt8 := if (namesOf (jn l)).length = l.length then jn l else []
def fineL (l : List (List UInt8)) : Bool := decide (1 ≤ l.length) && decide (l.length ≤ 4) && l.all nameB
theorem fine_no {l : List (List UInt8)} (h : fineL l = true) : l ≠ [] ∧ ∀ x ∈ l, (47 : UInt8) ∉ x := by
  simp only [fineL, Bool.and_eq_true, decide_eq_true_eq] at h
  exact ⟨List.length_pos_iff.1 h.1.1, fun x hx => name_no (List.all_eq_true.1 h.2 x hx)⟩
theorem fine_spl {l : List (List UInt8)} (h : fineL l = true) : spl (jn l) = l := spl_jn l (fine_no h).1 (fine_no h).2
theorem right_fine {s : List UInt8} : rightB s = fineL (spl s) := by
  rw [rightB, fineL, decide_eq_true (spl_len_pos s), Bool.true_and]
theorem fine_right {l : List (List UInt8)} (h : fineL l = true) : rightB (jn l) = true := by rw [right_fine, fine_spl h, h]
theorem join_fine {l : List (List UInt8)} (h : fineL l = true) : joinP l = jn l := by
  rw [joinP, names_right (fine_right h), fine_spl h, if_pos rfl]
theorem join_wrong {l : List (List UInt8)} (h : fineL l = false) : joinP l = [] := by
  unfold joinP
  split
  · rename_i he
    cases l with
    | nil => rfl
    | cons x r =>
      exfalso
      cases hr : rightB (jn (x :: r)) with
      | false => rw [names_wrong hr] at he; simp at he
      | true =>
        rw [names_right hr] at he
        have := (spl_len (x :: r) (by simp)).2 he
        rw [right_fine, this, h] at hr
        cases hr
  · rfl
theorem join_eq (l : List (List UInt8)) : joinP l = if fineL l = true then jn l else [] := by
  cases h : fineL l with
  | true => rw [join_fine h]; rfl
  | false => rw [join_wrong h]; rfl
theorem right_nil : rightB [] = false := by decide
theorem jn_ne {l : List (List UInt8)} (h : fineL l = true) : jn l ≠ [] := by
  intro e
  have := fine_right h
  rw [e, right_nil] at this
  cases this
theorem join_right (l : List (List UInt8)) : rightB (joinP l) = fineL l := by
  rw [join_eq]
  cases h : fineL l with
  | true => rw [if_pos rfl, fine_right h]
  | false => rw [if_neg (by simp)]; exact right_nil
theorem join_names {s : List UInt8} (h : rightB s = true) : joinP (namesOf s) = s := by
  rw [names_right h, join_fine (by rw [← right_fine]; exact h), jn_spl]
def parentB (s : List UInt8) : List UInt8 := joinP ((namesOf s).take ((namesOf s).length - 1))

/-! Under. -/
def underB (s d : List UInt8) : Bool := rightB s && rightB d && (d ++ [47]).isPrefixOf s
def clashB (a b : List UInt8) : Bool := underB a b || underB b a
theorem under_iff {s d : List UInt8} : underB s d = true ↔ rightB s = true ∧ rightB d = true ∧ ∃ t, s = d ++ 47 :: t := by
  rw [underB, Bool.and_eq_true, Bool.and_eq_true, List.isPrefixOf_iff_prefix]
  constructor
  · rintro ⟨⟨h1, h2⟩, t, h3⟩
    exact ⟨h1, h2, t, by rw [← h3]; simp⟩
  · rintro ⟨h1, h2, t, h3⟩
    exact ⟨⟨h1, h2⟩, t, by rw [h3]; simp⟩
theorem under_len {s d : List UInt8} (h : underB s d = true) : d.length < s.length := by
  obtain ⟨_, _, t, rfl⟩ := under_iff.1 h
  simp
theorem under_irrefl (s : List UInt8) : underB s s = false := by
  cases h : underB s s with
  | false => rfl
  | true => have := under_len h; omega
theorem under_asymm {a b : List UInt8} (h : underB a b = true) : underB b a = false := by
  cases k : underB b a with
  | false => rfl
  | true => have := under_len h; have := under_len k; omega
theorem under_trans {a b c : List UInt8} (h : underB a b = true) (k : underB b c = true) : underB a c = true := by
  obtain ⟨h1, h2, t, rfl⟩ := under_iff.1 h
  obtain ⟨_, h4, u, rfl⟩ := under_iff.1 k
  exact under_iff.2 ⟨h1, h4, u ++ 47 :: t, by simp⟩
theorem pre_app {b c t u : List UInt8} (h : b ++ 47 :: t = c ++ 47 :: u) (hl : b.length < c.length) : ∃ v, c = b ++ 47 :: v := by
  have e := congrArg (List.take c.length) h
  rw [List.take_left, List.take_append, List.take_of_length_le (by omega)] at e
  obtain ⟨k, hk⟩ : ∃ k, c.length - b.length = k + 1 := ⟨c.length - b.length - 1, by omega⟩
  rw [hk, List.take_succ_cons] at e
  exact ⟨t.take k, e.symm⟩
theorem pre_same {b c t u : List UInt8} (h : b ++ 47 :: t = c ++ 47 :: u) (hl : b.length = c.length) : b = c := (List.append_inj h hl).1
theorem under_clash {a b c : List UInt8} (h : underB a b = true) (k : underB a c = true) (hn : b ≠ c) : clashB b c = true := by
  obtain ⟨h1, h2, t, rfl⟩ := under_iff.1 h
  obtain ⟨_, h4, u, hu⟩ := under_iff.1 k
  rw [clashB, Bool.or_eq_true, under_iff, under_iff]
  rcases Nat.lt_trichotomy b.length c.length with hl | hl | hl
  · exact .inr ⟨h4, h2, pre_app hu hl⟩
  · exact absurd (pre_same hu hl) hn
  · exact .inl ⟨h2, h4, pre_app hu.symm hl⟩
theorem under_lt {a b : List UInt8} (h : underB a b = true) : lt b a = true := by
  obtain ⟨_, _, t, rfl⟩ := under_iff.1 h
  exact lt_app _ _ (by simp)
theorem under_right {a b : List UInt8} (h : underB a b = true) : rightB a = true ∧ rightB b = true := ⟨(under_iff.1 h).1, (under_iff.1 h).2.1⟩

/-! Parents. -/
theorem fine_take {l : List (List UInt8)} (h : fineL l = true) (n : Nat) (hn : 1 ≤ n) : fineL (l.take n) = true := by
  simp only [fineL, Bool.and_eq_true, decide_eq_true_eq, List.length_take] at h ⊢
  refine ⟨⟨by omega, by omega⟩, ?_⟩
  rw [List.all_eq_true] at h ⊢
  exact fun x hx => h.2 x (List.mem_of_mem_take hx)
theorem jn_snoc {l : List (List UInt8)} (h : l ≠ []) (x : List UInt8) : jn (l ++ [x]) = jn l ++ 47 :: x := by
  induction l with
  | nil => exact absurd rfl h
  | cons y r ih =>
    cases r with
    | nil => rfl
    | cons z r =>
      rw [List.cons_append, jn_cons (show z :: r ++ [x] ≠ [] by simp), ih (by simp), show jn (y :: z :: r) = y ++ 47 :: jn (z :: r) from rfl]
      simp
theorem parent_wrong {s : List UInt8} (h : rightB s = false) : parentB s = [] := by
  rw [parentB, names_wrong h]; decide
theorem parent_one {s : List UInt8} (h : rightB s = true) (h1 : (spl s).length = 1) : parentB s = [] := by
  rw [parentB, names_right h, h1]
  show joinP (List.take 0 _) = []
  rw [List.take_zero]; decide
/-- The names ahead of the last one. -/
theorem parent_more {s : List UInt8} (h : rightB s = true) (h1 : 2 ≤ (spl s).length) : parentB s = jn ((spl s).take ((spl s).length - 1)) ∧ fineL ((spl s).take ((spl s).length - 1)) = true ∧ ∃ x, (47 : UInt8) ∉ x ∧ s = parentB s ++ 47 :: x := by
  have hf : fineL ((spl s).take ((spl s).length - 1)) = true := fine_take (by rw [← right_fine]; exact h) _ (by omega)
  have hp : parentB s = jn ((spl s).take ((spl s).length - 1)) := by rw [parentB, names_right h, join_fine hf]
  refine ⟨hp, hf, (spl s)[(spl s).length - 1], spl_no s _ (List.getElem_mem _), ?_⟩
  have e : spl s = (spl s).take ((spl s).length - 1) ++ [(spl s)[(spl s).length - 1]] := by
    have := List.take_append_getElem (l := spl s) (i := (spl s).length - 1) (by omega)
    rw [show (spl s).length - 1 + 1 = (spl s).length by omega, List.take_length] at this
    exact this.symm
  have e2 := jn_snoc (fine_no hf).1 ((spl s)[(spl s).length - 1])
  rw [← e, jn_spl, ← hp] at e2
  exact e2
theorem parent_under {s : List UInt8} (h : parentB s ≠ []) : underB s (parentB s) = true ∧ rightB s = true ∧ 2 ≤ (spl s).length := by
  cases hr : rightB s with
  | false => exact absurd (parent_wrong hr) h
  | true =>
    have h1 := spl_len_pos s
    by_cases h2 : (spl s).length = 1
    · exact absurd (parent_one hr h2) h
    · obtain ⟨hp, hf, x, _, hs⟩ := parent_more hr (by omega)
      refine ⟨under_iff.2 ⟨hr, by rw [hp]; exact fine_right hf, x, hs⟩, rfl, by omega⟩
theorem mem_app_of_lt {p x : List UInt8} {b t : List UInt8} (h : p ++ 47 :: x = b ++ 47 :: t) (hl : p.length < b.length) : (47 : UInt8) ∈ x := by
  obtain ⟨v, rfl⟩ := pre_app h hl
  rw [List.append_assoc] at h
  have := List.append_cancel_left h
  simp only [List.cons_append, List.cons.injEq, true_and] at this
  rw [this]; simp
theorem under_parent {a b : List UInt8} (h : underB a b = true) : parentB a = b ∨ underB (parentB a) b = true := by
  obtain ⟨h1, h2, t, ht⟩ := under_iff.1 h
  have hl : 2 ≤ (spl a).length := by
    rw [ht, spl_app_any, List.length_append]
    have := spl_len_pos b; have := spl_len_pos t; omega
  obtain ⟨hp, hf, x, hx, hs⟩ := parent_more h1 hl
  have hr : rightB (parentB a) = true := by rw [hp]; exact fine_right hf
  have e : parentB a ++ 47 :: x = b ++ 47 :: t := hs.symm.trans ht
  rcases Nat.lt_trichotomy (parentB a).length b.length with hl | hl | hl
  · exact absurd (mem_app_of_lt e hl) hx
  · exact .inl (pre_same e hl)
  · exact .inr (under_iff.2 ⟨hr, h2, pre_app e.symm hl⟩)

/-! Paths that rise. -/
def sortedB : List (List UInt8) → Bool
  | [] => true
  | [x] => rightB x
  | x :: y :: r => rightB x && lt x y && sortedB (y :: r)
theorem sorted_iff : ∀ (l : List (List UInt8)), sortedB l = true ↔ (∀ x ∈ l, rightB x = true) ∧ l.Pairwise fun x y => lt x y = true
  | [] => by simp [sortedB]
  | [x] => by simp [sortedB]
  | x :: y :: r => by
    rw [sortedB, Bool.and_eq_true, Bool.and_eq_true, sorted_iff (y :: r)]
    constructor
    · rintro ⟨⟨h1, h2⟩, h3, h4⟩
      refine ⟨fun z hz => ?_, List.pairwise_cons.2 ⟨fun z hz => ?_, h4⟩⟩
      · rcases List.mem_cons.1 hz with rfl | hz
        · exact h1
        · exact h3 z hz
      · rcases List.mem_cons.1 hz with rfl | hz
        · exact h2
        · exact lt_trans h2 ((List.pairwise_cons.1 h4).1 z hz)
    · rintro ⟨h1, h2⟩
      obtain ⟨h3, h4⟩ := List.pairwise_cons.1 h2
      exact ⟨⟨h1 x (by simp), h3 y (by simp)⟩, fun z hz => h1 z (List.mem_cons_of_mem _ hz), h4⟩
/-- As the loops go: each path is right, and greater than the one ahead. -/
theorem sorted_at (l : List (List UInt8)) : sortedB l = true ↔ ∀ i (h : i < l.length), rightB l[i] = true ∧ (0 < i → lt (l[i - 1]'(by omega)) l[i] = true) := by
  rw [sorted_iff]
  constructor
  · rintro ⟨h1, h2⟩ i h
    exact ⟨h1 _ (List.getElem_mem h), fun hi => List.pairwise_iff_getElem.1 h2 (i - 1) i (by omega) h (by omega)⟩
  · intro h
    refine ⟨fun x hx => ?_, List.pairwise_iff_getElem.2 fun i j hi hj hij => ?_⟩
    · obtain ⟨i, hi, rfl⟩ := List.getElem_of_mem hx
      exact (h i hi).1
    · have key : ∀ d (hd : i + 1 + d < l.length), lt l[i] l[i + 1 + d] = true := by
        intro d
        induction d with
        | zero => intro hd; exact (h (i + 1) hd).2 (by omega)
        | succ d ih => intro hd; exact lt_trans (ih (by omega)) ((h (i + 1 + (d + 1)) hd).2 (by omega))
      have := key (j - (i + 1)) (by omega)
      simpa [show i + 1 + (j - (i + 1)) = j by omega] using this
theorem sorted_sub {l m : List (List UInt8)} (h : sortedB l = true) (k : m.Sublist l) : sortedB m = true := by
  rw [sorted_iff] at *
  exact ⟨fun x hx => h.1 x (k.subset hx), h.2.sublist k⟩
theorem sorted_dup {l : List (List UInt8)} {x : List UInt8} (hx : x ∈ l) : sortedB (l ++ [x]) = false := by
  cases h : sortedB (l ++ [x]) with
  | false => rfl
  | true =>
    rw [sorted_iff, List.pairwise_append] at h
    have := h.2.2.2 x hx x (by simp)
    rw [lt_irrefl] at this; cases this
theorem sorted_ne {l : List (List UInt8)} (h : sortedB l = true) {i k : Nat} (hi : i < l.length) (hk : k < i) : l[i] ≠ l[k] := by
  rw [sorted_iff] at h
  have := List.pairwise_iff_getElem.1 h.2 k i (by omega) hi hk
  intro e
  rw [e, lt_irrefl] at this; cases this
end Go.PathLaw
