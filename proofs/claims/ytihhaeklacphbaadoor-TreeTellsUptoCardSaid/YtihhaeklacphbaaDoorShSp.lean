/-
  The shadow machine, part Sp: strings.Split at a byte, strings.Join, strings.IndexByte: the kit's walks as contracts.
-/
import Derived.Test.YtihhaeklacphbaaDoorShLb
import Derived.Test.YtihhaeklacphbaaDoorShPath
import Derived.Shelf.Strings.OnBuilder
import Derived.Shelf.Strings.Split
import Derived.Shelf.Small.Strs
set_option linter.unusedSimpArgs false
set_option linter.unusedVariables false
namespace Go.Sh
open Go.Proofs Go.Shelf Go.RowKit

theorem two_of {α : Type} {l : List α} (h : l.length = 2) : ∃ a b, l = [a, b] := by
  match l, h with
  | [a, b], _ => exact ⟨a, b, rfl⟩

section
variable {P : Program} {ρ : Ren}
set_option maxHeartbeats 1000000 in
/-- strings.Split at one byte: no variable is read. -/
theorem split1 (L : Lays.n146 P ρ) (hi9 : (P.info? (ρ.t 9)).map (fun i => (i.zero, i.size, i.bytes)) = some (some (.string ByteArray.empty), 1, 16)) (s : ByteArray) (c : UInt8) (w : World) (hs : s.size < 4294967281) :
    Calls P (ρ.f 146) #[.string s, .string ⟨#[c]⟩] w fun e w' =>
      e = .returned (.slice (some ⟨w.heap.size, 0, none⟩) (Lib.countB s ⟨#[c]⟩ + 1) (Lib.countB s ⟨#[c]⟩ + 1)) ∧ w' = w.alloc (.cells ((Lib.splitB ⟨#[c]⟩ 0 (Lib.countB s ⟨#[c]⟩) s).map Value.string).toArray (ρ.t 9)) := by
  have h1 : 1 ≤ (⟨#[c]⟩ : ByteArray).size := Nat.le_refl 1
  have hle := Lib.countB_le ⟨#[c]⟩ h1 s.size s (Nat.le_refl _)
  have hlen := Lib.splitB_all ⟨#[c]⟩ h1 0 _ s rfl
  have hI : ∀ (x : ByteArray) (u : World), Calls P (ρ.f 143) #[.string x, .string ⟨#[c]⟩] u fun e w' => e = .returned (.int .i64 (Lib.indexB x ⟨#[c]⟩)) ∧ w' = u := by
    intro x u
    refine (Any.strings_Index_one { L with } x c u).mono fun e w' ⟨he, hw⟩ => ⟨?_, hw⟩
    rw [he]
    show _ = Ending.returned (Value.int .i64 (Lib.index x.data.toList [c]))
    rw [Lib.index_one]
  have hC : Calls P (ρ.f 138) #[.string s, .string ⟨#[c]⟩] w fun e w' => e = .returned (.int .i64 (Lib.countB s ⟨#[c]⟩)) ∧ w' = w := by
    refine (Any.strings_Count_one { L with } s c w).mono fun e w' ⟨he, hw⟩ => ⟨?_, hw⟩
    rw [he]
    show _ = Ending.returned (Value.int .i64 ((Lib.count s.data.toList [c] : Nat) : Int))
    rw [Lib.count_one]
    rfl
  have c' := Any.strings_genSplit_core { L with } hi9 s ⟨#[c]⟩ 0 (-1) (Lib.countB s ⟨#[c]⟩ + 1) w hs h1 (Nat.zero_le _) (fun x cs _ => hI x _) hC (by decide) (by decide) (by rw [if_pos (by decide)]; omega)
  rw [Nat.add_sub_cancel, hlen] at c'
  have e2 : Lib.cellsOf (Lib.splitB ⟨#[c]⟩ 0 (Lib.countB s ⟨#[c]⟩) s) (Lib.countB s ⟨#[c]⟩ + 1) = ((Lib.splitB ⟨#[c]⟩ 0 (Lib.countB s ⟨#[c]⟩) s).map Value.string).toArray := by rw [← hlen]; exact Lib.cellsOf_full _
  rw [e2] at c'
  have t3 := L.t3; have t9 := L.t9; have t31 := L.t31
  have a3 := L.a3; have a9 := L.a9; have a31 := L.a31
  have z3 := L.z3; have v3 := L.v3; have z9 := L.z9; have v9 := L.v9; have z31 := L.z31; have v31 := L.v31
  have e221 : ∀ args w, (callFunc (ρ.f 221) args).run P w = .ok (.enter (ρ.f 221) args) w := enters_of L.f221 (by kernel_rfl) rfl
  go_enter L.f146, Body.n146_ntmps ρ
  go_wp2_with (go_at_fn (ρ.f 221); refine c'.mono ?_; rintro e w' ⟨rfl, hw⟩; rw [hw])
  go_ret
  exact ⟨rfl, rfl⟩
end

open Go.PathLaw
/-- The pieces between strokes, as the library's words say it. -/
theorem splitK_spl : ∀ (k : Nat) (l : List UInt8), l.count 47 = k → Lib.splitK [47] 0 k l = spl l
  | 0, l, h => by
    rw [Lib.splitK, spl_plain l (List.count_eq_zero.1 h)]
  | k + 1, l, h => by
    have hm : (47 : UInt8) ∈ l := List.count_pos_iff.1 (by omega)
    have key : ∀ l : List UInt8, (47 : UInt8) ∈ l → ∃ x r, l = x ++ 47 :: r ∧ (47 : UInt8) ∉ x ∧ Lib.indexByte l 47 = (x.length : Int) := by
      intro l
      induction l with
      | nil => intro h; cases h
      | cons c l ih =>
        intro hm
        by_cases hc : c = 47
        · subst hc
          exact ⟨[], l, rfl, by simp, by simp [Lib.indexByte]⟩
        · have hm' : (47 : UInt8) ∈ l := by
            rcases List.mem_cons.1 hm with e | h
            · exact absurd e.symm hc
            · exact h
          obtain ⟨x, r, rfl, hx, hi⟩ := ih hm'
          refine ⟨c :: x, r, rfl, ?_, ?_⟩
          · intro h
            rcases List.mem_cons.1 h with e | h
            · exact hc e.symm
            · exact hx h
          · have hb : (c == 47) = false := by simpa using hc
            rw [Lib.indexByte, hi, hb]
            have : ((x.length : Int) == -1) = false := by simp
            rw [this]; simp
    obtain ⟨x, r, rfl, hx, hi⟩ := key l hm
    have hn : (Lib.index (x ++ 47 :: r) [47] == -1) = false := by rw [Lib.index_one, hi]; simp
    rw [Lib.splitK, hn, Lib.index_one, hi, spl_app x r hx]
    have hc : r.count 47 = k := by
      rw [List.count_append, List.count_eq_zero.2 hx, List.count_cons_self] at h
      omega
    have e1 : (x ++ 47 :: r).take (((x.length : Nat) : Int).toNat + 0) = x := by simp
    have e2 : (x ++ 47 :: r).drop (((x.length : Nat) : Int).toNat + [(47 : UInt8)].length) = r := by
      simp only [Int.toNat_natCast, List.length_cons, List.length_nil, Nat.zero_add]
      rw [← List.drop_drop, List.drop_left]; rfl
    rw [e1, e2, splitK_spl k r hc]; rfl
theorem split_spl (s : ByteArray) : ((Lib.splitB ⟨#[47]⟩ 0 (Lib.countB s ⟨#[47]⟩) s).map (·.data.toList)) = spl s.data.toList := by
  rw [Lib.splitB_data]
  show Lib.splitK [47] 0 _ _ = _
  have : Lib.countB s ⟨#[47]⟩ = s.data.toList.count 47 := by
    show Lib.count s.data.toList [47] = _
    rw [Lib.count_one]
  rw [this, splitK_spl _ _ rfl]
theorem join_jn : ∀ l : List (List UInt8), Lib.join l [47] = jn l
  | [] => rfl
  | [x] => by simp [Lib.join, List.intercalate, jn]
  | x :: y :: r => by
    have ih := join_jn (y :: r)
    rw [jn, ← ih]
    simp [Lib.join, List.intercalate]
theorem jn_len : ∀ l : List (List UInt8), (jn l).length ≤ l.flatten.length + l.length
  | [] => by simp [jn]
  | [x] => by simp [jn]
  | x :: y :: r => by
    have ih := jn_len (y :: r)
    simp only [jn, List.length_append, List.length_cons, List.flatten_cons] at ih ⊢
    omega

/-- strings.Split. -/
def KSplit : List SV → SV → Prop := fun args r => ∃ s : List UInt8, s.length ≤ 4294967280 ∧ args = [.str s, .str [47]] ∧ r = .sl (ssv (spl s)) (spl s).length .ro
theorem rSplit {P : Program} {ρ : Ren} (L : Lays.n146 P ρ) (hi9 : (P.info? (ρ.t 9)).map (fun i => (i.zero, i.size, i.bytes)) = some (some (.string ByteArray.empty), 1, 16)) {f : FuncId} (hf : f = ρ.f 146) (hp : plainB P f = true) (args : List SV) (st : List Ob) (r : SV) (st' : List Ob) (h : FnC KSplit args st r st') : RealC P f args st r st' := by
  obtain ⟨rfl, s, hs, rfl, rfl⟩ := h
  subst hf
  refine real_of hp fun g w vs hI hv => ?_
  obtain ⟨hl, hV⟩ := hv
  obtain ⟨v, u, rfl⟩ : ∃ v u, vs = [v, u] := two_of hl
  have h0 := hV 0 (by simp) (by simp)
  have h1 := hV 1 (by simp) (by simp)
  simp only [List.getElem_cons_zero, List.getElem_cons_succ] at h0 h1
  rw [str_val h0, str_val h1]
  refine (split1 L hi9 ⟨s.toArray⟩ 47 w (by show s.toArray.size < _; simp; omega)).mono ?_
  rintro e w' ⟨rfl, rfl⟩
  have hsp := split_spl ⟨s.toArray⟩
  have hsl : (⟨s.toArray⟩ : ByteArray).data.toList = s := rfl
  rw [hsl] at hsp
  have hn := Lib.splitB_all ⟨#[47]⟩ (Nat.le_refl 1) 0 _ ⟨s.toArray⟩ rfl
  generalize hB : Lib.splitB ⟨#[47]⟩ 0 (Lib.countB ⟨s.toArray⟩ ⟨#[47]⟩) ⟨s.toArray⟩ = B at *
  have hlen : (spl s).length = Lib.countB ⟨s.toArray⟩ ⟨#[47]⟩ + 1 := by rw [← hsp, List.length_map, hn]
  rw [← hlen]
  have hBl : B.length = (spl s).length := by rw [hn, hlen]
  refine ⟨_, { g with mark := fun x => if x = w.heap.size then (spl s).length else g.mark x }, rfl, ?_, fun x hx => ?_, rfl, rfl, ?_⟩
  · exact (Below.refl _ w).alloc (Nat.le_refl _) _
  · show (if x = w.heap.size then _ else _) = _
    rw [if_neg (by omega)]
  · have hl2 : (ssv (spl s)).length = (spl s).length := ssv_len _
    refine .sl _ w.heap.size 0 _ _ _ .ro (fun i => (B.map Value.string).getD i (.bool false)) (Nat.le_refl _) (fun i hi => ?_) (fun i hi => ?_) (fun i hi => ?_) (.inr ?_)
    · rw [hl2] at hi
      rw [World.cell?_alloc_new]
      simp only [Nat.zero_add, List.getElem?_toArray]
      rw [List.getD_eq_getElem?_getD, List.getElem?_eq_getElem (by rw [List.length_map]; omega)]; rfl
    · rw [hl2] at hi
      rw [List.getD_eq_getElem?_getD, List.getElem?_map, List.getElem?_eq_getElem (by omega)]
      rfl
    · rw [hl2] at hi
      rw [List.getD_eq_getElem?_getD, List.getElem?_map, List.getElem?_eq_getElem (show i < B.length by omega)]
      have e : (ssv (spl s))[i]'(by omega) = .str (B[i]'(by omega)).data.toList := by
        simp only [ssv, List.getElem_map]
        congr 1
        have := congrArg (fun l => l[i]?) hsp
        simp only [List.getElem?_map] at this
        rw [List.getElem?_eq_getElem (show i < B.length by omega), List.getElem?_eq_getElem hi] at this
        simpa using this.symm
      rw [e]
      exact .str _ _
    · rw [hl2]
      show 0 + _ ≤ (if w.heap.size = w.heap.size then _ else _)
      rw [if_pos rfl]; omega
/-- strings.IndexByte. -/
def KIndexByte : List SV → SV → Prop := fun args r => ∃ (s : List UInt8) (c : Int), args = [.str s, .int .u8 c] ∧ r = .int .i64 (Lib.indexByte s c.toNat.toUInt8)
theorem rIndexByte {P : Program} {ρ : Ren} (L : Lays.n137 P ρ) {f : FuncId} (hf : f = ρ.f 137) (hp : plainB P f = true) (args : List SV) (st : List Ob) (r : SV) (st' : List Ob) (h : FnC KIndexByte args st r st') : RealC P f args st r st' := by
  obtain ⟨rfl, s, c, rfl, rfl⟩ := h
  subst hf
  refine real_of hp fun g w vs hI hv => ?_
  obtain ⟨hl, hV⟩ := hv
  obtain ⟨v, u, rfl⟩ : ∃ v u, vs = [v, u] := two_of hl
  have h0 := hV 0 (by simp) (by simp)
  have h1 := hV 1 (by simp) (by simp)
  simp only [List.getElem_cons_zero, List.getElem_cons_succ] at h0 h1
  rw [str_val h0, h1.int_inv]
  refine (Any.strings_IndexByte L ⟨s.toArray⟩ c w).mono ?_
  rintro e w' ⟨rfl, rfl⟩
  exact ⟨_, g, rfl, .refl _ _, fun _ _ => rfl, rfl, rfl, .int _ _ _⟩
/-- strings.Join. -/
def KJoin (sep : List UInt8) : List SV → List Ob → SV → List Ob → Prop := fun args st r st' => st' = st ∧ ∃ v l, isStrs st v l ∧ l.length ≤ 1099511627776 ∧ l.flatten.length ≤ 1099511627776 ∧ sep.length ≤ 1 ∧ args = [v, .str sep] ∧ r = .str (Lib.join l sep)
theorem join_len (sep : List UInt8) (hs : sep.length ≤ 1) : ∀ l : List (List UInt8), (Lib.join l sep).length ≤ l.flatten.length + l.length
  | [] => by simp [Lib.join, List.intercalate]
  | [x] => by simp [Lib.join, List.intercalate]
  | x :: y :: r => by
    have ih := join_len sep hs (y :: r)
    have e : Lib.join (x :: y :: r) sep = x ++ (sep ++ Lib.join (y :: r) sep) := by simp [Lib.join, List.intercalate]
    rw [e]
    simp only [List.length_append, List.length_cons, List.flatten_cons] at ih ⊢
    omega
theorem rJoin {P : Program} {ρ : Ren} (L : Lays.n156 P ρ) (X : Builder.Extra P ρ) {sep : List UInt8} {f : FuncId} (hf : f = ρ.f 156) (hp : plainB P f = true) (args : List SV) (st : List Ob) (r : SV) (st' : List Ob) (h : KJoin sep args st r st') : RealC P f args st r st' := by
  obtain ⟨rfl, v, l, hs, h1, h2, hsep, rfl, rfl⟩ := h
  subst hf
  refine real_of hp fun g w vs hI hv => ?_
  obtain ⟨hl, hV⟩ := hv
  obtain ⟨u, t, rfl⟩ : ∃ u t, vs = [u, t] := two_of hl
  have h0 := hV 0 (by simp) (by simp)
  have h3 := hV 1 (by simp) (by simp)
  simp only [List.getElem_cons_zero, List.getElem_cons_succ] at h0 h3
  rw [str_val h3]
  obtain ⟨p, cap, rfl, hat1, hat2⟩ := strs_of hI h0 hs
  by_cases hne : l = []
  · subst hne
    refine (Any.strings_Join_none L X p cap ⟨sep.toArray⟩ w).mono ?_
    rintro e w' ⟨rfl, rfl⟩
    exact ⟨_, g, rfl, .refl _ _, fun _ _ => rfl, rfl, rfl, .str _ _⟩
  · obtain ⟨b, off, rfl, hb, hc⟩ := hat2 hne
    have hm : (l.map fun x => (⟨x.toArray⟩ : ByteArray)).map (·.data.toList) = l := by
      rw [List.map_map]; simp [Function.comp_def]
    have hjl := join_len sep hsep l
    have := Any.strings_Join L X b off cap (l.map fun x => (⟨x.toArray⟩ : ByteArray)) ⟨sep.toArray⟩ w (fun j x hx => by
        rw [List.getElem?_map, Option.map_eq_some_iff] at hx
        obtain ⟨y, hy, rfl⟩ := hx
        obtain ⟨hj, rfl⟩ := List.getElem?_eq_some_iff.1 hy
        exact hc j hj) hb (by simp; omega) (by simpa using hat1) (by rw [hm]; show (Lib.join l sep).length ≤ _; omega)
    rw [List.length_map, hm] at this
    refine this.mono ?_
    rintro e w' ⟨rfl, hB⟩
    exact ⟨_, g, rfl, hB, fun _ _ => rfl, rfl, rfl, .str _ _⟩
end Go.Sh
