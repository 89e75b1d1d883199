/-
  The plain laws of names and paths: lists of bytes alone.
-/
import Derived.WalkKit
namespace Go.PathLaw
theorem less_eq : ∀ (x y : List UInt8), Op.bytesLess x y = decide (x < y)
  | [], [] => by simp [Op.bytesLess]
  | _ :: _, [] => by simp [Op.bytesLess]
  | [], _ :: _ => by simp [Op.bytesLess]
  | a :: x, b :: y => by
    rw [Op.bytesLess, less_eq x y]
    simp only [List.cons_lt_cons_iff]
    by_cases h1 : a < b <;> by_cases h2 : a = b <;> by_cases h3 : x < y <;> simp [h1, h2, h3]
def lt (x y : List UInt8) : Bool := Op.bytesLess x y
theorem lt_iff (x y : List UInt8) : lt x y = true ↔ x < y := by rw [lt, less_eq]; simp
theorem lt_irrefl (x : List UInt8) : lt x x = false := by
  rw [lt, less_eq]; simp
theorem lt_trans {x y z : List UInt8} (h : lt x y = true) (k : lt y z = true) : lt x z = true := by
  rw [lt_iff] at *; exact List.lt_trans h k
theorem lt_asymm {x y : List UInt8} (h : lt x y = true) : lt y x = false := by
  cases hb : lt y x with
  | false => rfl
  | true => have := lt_trans h hb; rw [lt_irrefl] at this; cases this
theorem lt_total : ∀ (x y : List UInt8), x = y ∨ lt x y = true ∨ lt y x = true
  | [], [] => .inl rfl
  | [], _ :: _ => .inr (.inl rfl)
  | _ :: _, [] => .inr (.inr rfl)
  | a :: x, b :: y => by
    have ih := lt_total x y
    show a :: x = b :: y ∨ (decide (a < b) || (a == b && Op.bytesLess x y)) = true ∨ (decide (b < a) || (b == a && Op.bytesLess y x)) = true
    have h : a < b ∨ a = b ∨ b < a := by
      rcases Nat.lt_trichotomy a.toNat b.toNat with h | h | h
      · exact .inl (UInt8.lt_iff_toNat_lt.2 h)
      · exact .inr (.inl (UInt8.toNat_inj.1 h))
      · exact .inr (.inr (UInt8.lt_iff_toNat_lt.2 h))
    rcases h with h | rfl | h
    · exact .inr (.inl (by simp [h]))
    · rcases ih with rfl | ih | ih
      · exact .inl rfl
      · exact .inr (.inl (by rw [show Op.bytesLess x y = true from ih]; simp))
      · exact .inr (.inr (by rw [show Op.bytesLess y x = true from ih]; simp))
    · exact .inr (.inr (by simp [h]))
def spl : List UInt8 → List (List UInt8)
  | [] => [[]]
  | c :: r => if c = 47 then [] :: spl r else match spl r with
    | h :: t => (c :: h) :: t
    | [] => [[c]]
def jn : List (List UInt8) → List UInt8
  | [] => []
  | [x] => x
  | x :: y :: r => x ++ 47 :: jn (y :: r)
theorem spl_ne : ∀ s, spl s ≠ []
  | [] => by simp [spl]
  | c :: r => by
    unfold spl
    split
    · simp
    · split <;> simp
theorem spl_cons {c : UInt8} {r h : List UInt8} {t : List (List UInt8)} (hc : c ≠ 47) (hr : spl r = h :: t) : spl (c :: r) = (c :: h) :: t := by
  rw [spl, if_neg hc, hr]
theorem spl_stroke (r : List UInt8) : spl (47 :: r) = [] :: spl r := by rw [spl, if_pos rfl]
theorem spl_app (x r : List UInt8) (hx : 47 ∉ x) : spl (x ++ 47 :: r) = x :: spl r := by
  induction x with
  | nil => rw [List.nil_append, spl_stroke]
  | cons c x ih =>
    have h1 : c ≠ 47 := fun e => hx (by simp [e])
    have h2 : 47 ∉ x := fun e => hx (List.mem_cons_of_mem _ e)
    rw [List.cons_append, spl_cons h1 (ih h2)]
theorem spl_plain (x : List UInt8) (hx : 47 ∉ x) : spl x = [x] := by
  induction x with
  | nil => rfl
  | cons c x ih =>
    have h1 : c ≠ 47 := fun e => hx (by simp [e])
    have h2 : 47 ∉ x := fun e => hx (List.mem_cons_of_mem _ e)
    rw [spl_cons h1 (ih h2)]
theorem jn_cons {x : List UInt8} {r : List (List UInt8)} (h : r ≠ []) : jn (x :: r) = x ++ 47 :: jn r := by
  cases r with
  | nil => exact absurd rfl h
  | cons y r => rfl
theorem jn_spl : ∀ s, jn (spl s) = s
  | [] => rfl
  | c :: r => by
    have ih := jn_spl r
    by_cases hc : c = 47
    · subst hc
      rw [spl_stroke, jn_cons (spl_ne r), ih]; rfl
    · cases hs : spl r with
      | nil => exact absurd hs (spl_ne r)
      | cons h t =>
        rw [spl_cons hc hs]
        rw [hs] at ih
        cases t with
        | nil => simp only [jn] at ih ⊢; rw [ih]
        | cons y t => simp only [jn] at ih ⊢; rw [← ih]; rfl
def okB (c : UInt8) : Bool := decide (97 ≤ c.toNat) && decide (c.toNat ≤ 122) || decide (48 ≤ c.toNat) && decide (c.toNat ≤ 57) || c == 46 || c == 45
def nameB (s : List UInt8) : Bool := decide (1 ≤ s.length) && decide (s.length ≤ 12) && s != [46] && s != [46, 46] && s.all okB
def namesOf (s : List UInt8) : List (List UInt8) := if (spl s).length ≤ 4 ∧ (spl s).all nameB = true then spl s else []
def rightB (s : List UInt8) : Bool := decide ((spl s).length ≤ 4) && (spl s).all nameB
theorem names_right {s : List UInt8} (h : rightB s = true) : namesOf s = spl s := by
  simp only [rightB, Bool.and_eq_true, decide_eq_true_eq] at h
  rw [namesOf, if_pos h]
theorem names_wrong {s : List UInt8} (h : rightB s = false) : namesOf s = [] := by
  rw [namesOf, if_neg]
  rintro ⟨h1, h2⟩
  rw [rightB, h2, Bool.and_true, decide_eq_true h1] at h
  cases h
theorem right_names (s : List UInt8) : rightB s = decide (0 < (namesOf s).length) := by
  cases h : rightB s with
  | true => rw [names_right h]; simp [spl_ne, List.length_pos_iff]
  | false => rw [names_wrong h]; simp
end Go.PathLaw
