/-
  Records: what Read tells, in plain words, and pieces as a callee.
  Records: Read, in the shadow machine.
  Records: Read as a callee, and the small manifest.
  Records: the small manifest that all laws look at first, in the shadow machine.
  Records: what is written is read back, and what is read was written; in plain words.
  Records: what is read was written; in plain words.
  Records: RecordBack, in the shadow machine.
  Records: what a copy is while it is spoilt.
  Records: RecordTells, in the shadow machine.
-/
import Derived.Test.YtlknoahpliaigaaDoorRcM
import Derived.Test.YtlknoahpliaigaaDoorGrM
set_option linter.unusedSimpArgs false
set_option linter.unusedVariables false
namespace Go.Sh.F
open Go.PathLaw Go.Proofs
def O212 : Orc := O211.add 43 (KRun O211 sf43)
theorem s212 : Sound Tryd.prog O212 := s211.add c43 (by kernel_rfl) (by
  rintro args r st r' ⟨h, hr⟩
  exact ⟨h, hr⟩)
theorem stR3 {st : List Ob} {A B : Ob} {c0 : List SV} {v : SV} {s : W.RdS} : stR (st ++ [A, B, .cells c0]) (st.length + 2) v s = st ++ [A, B, .cells [v, .int .i64 s.p, .int .i64 s.e]] := by
  unfold stR; rw [setA]; rfl
theorem xPc {st : List Ob} {v : SV} {s : W.RdS} (hs : rdOk v s) (A B : Ob) (l : List Ob) :
    O212 43 [.ptr (st.length + 2) 0] (st ++ (A :: B :: .cells [v, .int .i64 s.p, .int .i64 s.e] :: l)) (.agg (pcF (st.length + 3 + (l.length + 2)) s).cells)
      (st ++ (A :: B :: .cells [v, .int .i64 (pC s).2.p, .int .i64 (pC s).2.e] :: (l ++ [.cells (pcF (st.length + 3 + (l.length + 2)) s).cells, .cells (pcF (st.length + 3 + (l.length + 2)) s).cells, .cells (isv (pC s).1)]))) := by
  have h := g43p (st ++ [A, B, .cells [v, .int .i64 s.p, .int .i64 s.e]]) (st.length + 2) v s l (by simp) hs
  rw [stR3, stR3] at h
  rw [show (st ++ [A, B, .cells [v, .int .i64 s.p, .int .i64 s.e]]).length = st.length + 3 by simp] at h
  simp only [List.append_assoc, List.cons_append, List.nil_append] at h
  exact .inr ⟨rfl, by simp [sf43], h⟩
theorem pC_err {s : W.RdS} (h : s.e ≠ 0) : (pC s).2 = s := by
  have hn : ∀ (m : Int) (k : Nat), (numsF m k s).2 = s := by
    intro m k
    induction k with
    | zero => rfl
    | succ k ih => rw [numsF_snoc]; simp only [ih]; rw [W.numF_err h]
  have h1 : (pT s).2 = s := by unfold pT; rw [W.textF_err h]
  have h2 : (pA s).2 = s := by unfold pA; rw [h1, W.numF_err h]
  have h3 : (pB s).2 = s := by unfold pB; rw [h2]; exact hn _ _
  have h4 : (pK s).2 = s := by unfold pK; rw [h3, W.numF_err h]
  unfold pC; rw [h4]; exact hn _ _
theorem rdOk_pC {v : SV} {s : W.RdS} (h : rdOk v s) : rdOk v (pC s).2 ∧ (pC s).2.l = s.l := by
  obtain ⟨a1, b1⟩ := rdOk_text h 52
  obtain ⟨a2, b2⟩ := rdOk_num a1 1
  obtain ⟨a3, b3, _⟩ := rdOk_nums (most := MX) 4 a2
  obtain ⟨a4, b4⟩ := rdOk_num a3 10
  obtain ⟨a5, b5, _⟩ := rdOk_nums (most := MX) (W.numF (numsF MX 4 (W.numF (W.textF s 52).2 1).2).2 10).1.toNat a4
  exact ⟨a5, by rw [show (pC s).2.l = (numsF MX (W.numF (numsF MX 4 (W.numF (W.textF s 52).2 1).2).2 10).1.toNat (W.numF (numsF MX 4 (W.numF (W.textF s 52).2 1).2).2 10).2).2.l from rfl, b5, b4, b3, b2, b1]⟩
def psF (b : Nat) : Nat → W.RdS → List Pc × W.RdS
  | 0, s => ([], s)
  | k + 1, s => ((psF b k s).1 ++ [pcF (b + (3 * k + 2)) (psF b k s).2], (pC (psF b k s).2).2)
theorem psF_len (b : Nat) : ∀ (k : Nat) (s : W.RdS), (psF b k s).1.length = k
  | 0, s => rfl
  | k + 1, s => by rw [psF, List.length_append, psF_len b k s]; rfl
theorem rdOk_ps {v : SV} (b : Nat) : ∀ (k : Nat) {s : W.RdS}, rdOk v s → rdOk v (psF b k s).2 ∧ (psF b k s).2.l = s.l
  | 0, s, h => ⟨h, rfl⟩
  | k + 1, s, h => by
    obtain ⟨h1, h2⟩ := rdOk_ps b k h
    obtain ⟨h3, h4⟩ := rdOk_pC h1
    exact ⟨h3, h4.trans h2⟩
theorem psF_err (b : Nat) (s : W.RdS) {i : Nat} (h : (psF b i s).2.e ≠ 0) : ∀ j, (psF b (i + j) s).2 = (psF b i s).2
  | 0 => rfl
  | j + 1 => by
    have := psF_err b s h j
    show (pC (psF b (i + j) s).2).2 = _
    rw [this, pC_err h]
def pcObs (l : List Pc) : List Ob := l.flatMap fun p => [.cells p.cells, .cells p.cells, .cells (isv p.ch)]
theorem pcObs_len (l : List Pc) : (pcObs l).length = 3 * l.length := by
  induction l with
  | nil => rfl
  | cons p l ih => rw [pcObs, List.flatMap_cons, List.length_append]; unfold pcObs at ih; rw [ih, List.length_cons]; simp only [List.length_cons, List.length_nil]; omega
theorem pcObs_snoc (l : List Pc) (p : Pc) : pcObs (l ++ [p]) = pcObs l ++ [.cells p.cells, .cells p.cells, .cells (isv p.ch)] := by
  unfold pcObs; rw [List.flatMap_append, List.flatMap_cons, List.flatMap_nil, List.append_nil]
def pvS (f : Fl) : List Pc → SV
  | [] => .nilS
  | p :: l => .sl ((p :: l).flatMap Pc.cells) (l.length + 1) f
theorem pvS_ne (f : Fl) {l : List Pc} (h : l ≠ []) : pvS f l = .sl (l.flatMap Pc.cells) l.length f := by
  cases l with
  | nil => exact absurd rfl h
  | cons => rfl
def hdS (x : List UInt8) : List Int × W.RdS := numsF MX 7 ⟨x, 0, 0⟩
def rdN (x : List UInt8) : Int × W.RdS := W.numF (hdS x).2 32
def rdP (b : Nat) (x : List UInt8) : List Pc × W.RdS := psF b (rdN x).1.toNat (rdN x).2
def mfR (f : Fl) (b : Nat) (x : List UInt8) : Mf := ⟨(hdS x).1.getD 0 0, (hdS x).1.getD 1 0, (hdS x).1.getD 2 0, (hdS x).1.getD 3 0, (hdS x).1.getD 4 0, (hdS x).1.getD 5 0, (hdS x).1.getD 6 0, pvS f (rdP b x).1, (rdP b x).1⟩
def okR (b : Nat) (x : List UInt8) : Bool := (W.endF (rdP b x).2).e == 0 && rightM (mfR .ro b x)
def rdM (st : List Ob) (x : List UInt8) : Mf := if okR (st.length + 3) x = true then mfR .ro (st.length + 3) x else Mf.none
def rdC (st : List Ob) (x : List UInt8) : Int := if okR (st.length + 3) x = true then 0 else 4
def rdT (st : List Ob) (x : List UInt8) : List Ob := if okR (st.length + 3) x = true then st ++ (.cells (mfR .ro (st.length + 3) x).cells :: .cells (mfR (.own 7) (st.length + 3) x).cells :: .cells [.sl (W.bsv x) x.length .ro, .int .i64 (W.endF (rdP (st.length + 3) x).2).p, .int .i64 (W.endF (rdP (st.length + 3) x).2).e] :: pcObs (rdP (st.length + 3) x).1) else st
theorem numsF_le {v : SV} : ∀ (k : Nat) {s : W.RdS}, rdOk v s → ∀ x ∈ (numsF MX k s).1, 0 ≤ x ∧ x ≤ MX
  | 0, s, h, x, hx => by simp [numsF] at hx
  | k + 1, s, h, x, hx => by
    obtain ⟨n, h1, h2⟩ := numF_le (s := s) (most := MX) (by decide) h.2.2
    rw [numsF, List.mem_cons] at hx
    rcases hx with rfl | hx
    · rw [h1]; exact ⟨by omega, h2⟩
    · exact numsF_le k (rdOk_num h MX).1 x hx
theorem psF_row {v : SV} {st : List Ob} {A B C : Ob} : ∀ (k : Nat) {s : W.RdS}, rdOk v s → s.l.length ≤ 268435456 → ∀ p ∈ (psF (st.length + 3) k s).1, p.ok (st ++ (A :: B :: C :: pcObs (psF (st.length + 3) k s).1)) ∧ p.ch.length ≤ 10 ∧ p.path.length ≤ s.l.length
  | 0, s, h, hl, p, hp => by simp [psF] at hp
  | k + 1, s, h, hl, p, hp => by
    obtain ⟨h1, h2⟩ := rdOk_ps (st.length + 3) k h
    have e : st ++ (A :: B :: C :: pcObs (psF (st.length + 3) (k + 1) s).1) = (st ++ (A :: B :: C :: pcObs (psF (st.length + 3) k s).1)) ++ [.cells (pcF (st.length + 3 + (3 * k + 2)) (psF (st.length + 3) k s).2).cells, .cells (pcF (st.length + 3 + (3 * k + 2)) (psF (st.length + 3) k s).2).cells, .cells (isv (pC (psF (st.length + 3) k s).2).1)] := by
      show st ++ (A :: B :: C :: pcObs ((psF (st.length + 3) k s).1 ++ _)) = _
      rw [pcObs_snoc]; simp [pcF]
    rw [e]
    rw [psF, List.mem_append] at hp
    rcases hp with hp | hp
    · obtain ⟨g1, g2, g3⟩ := psF_row (A := A) (B := B) (C := C) k h hl p hp
      exact ⟨g1.mono _, g2, g3⟩
    · obtain rfl := List.mem_singleton.1 hp
      have hlen := psF_len (st.length + 3) k s
      obtain ⟨psk, sk, ek⟩ : ∃ a b, psF (st.length + 3) k s = (a, b) := ⟨_, _, rfl⟩
      rw [ek] at h1 h2 hlen ⊢
      simp only at h1 h2 hlen ⊢
      obtain ⟨x, p1, e1, ht, hq1, hq2⟩ := W.textF_spec sk 52 h1.2.2
      obtain ⟨a1, b1⟩ := rdOk_text h1 52
      obtain ⟨a2, b2⟩ := rdOk_num a1 1
      obtain ⟨a3, b3, _⟩ := rdOk_nums (most := MX) 4 a2
      obtain ⟨kn, hk1, hk2⟩ := numF_le (s := (pB sk).2) (most := 10) (by decide) a3.2.2
      obtain ⟨a4, b4⟩ := rdOk_num a3 10
      have hcl : (pC sk).1.length = kn := by
        obtain ⟨_, _, h9⟩ := rdOk_nums (most := MX) (pK sk).1.toNat a4
        show (numsF MX (pK sk).1.toNat (pK sk).2).1.length = kn
        have e9 : (numsF MX (pK sk).1.toNat (pK sk).2).1.length = (pK sk).1.toNat := h9
        rw [e9, show (pK sk).1 = (kn : Int) from hk1, Int.toNat_natCast]
      have hkn : kn ≤ 10 := by omega
      have hpl : (W.textF sk 52).1.length ≤ s.l.length := by rw [ht, ← h2]; exact hq2
      refine ⟨⟨⟨by rw [isv_len, Nat.mul_one], .inr (.inr ⟨_, 0, isv (pC sk).1, rfl, ?_, by simp [isv_len, pcF], ?_⟩)⟩, ?_, ?_⟩, ?_, hpl⟩
      · have e5 : st.length + 3 + (3 * k + 2) = (st ++ (A :: B :: C :: pcObs psk)).length + 2 := by
          simp only [List.length_append, List.length_cons, pcObs_len, hlen]; omega
        rw [e5, getA]; rfl
      · show ((isv (pC sk).1).drop 0).take ((pC sk).1.length * 1) = isv (pC sk).1
        rw [List.drop_zero, Nat.mul_one, List.take_of_length_le (by rw [isv_len]; exact Nat.le_refl _)]
      · show (pC sk).1.length ≤ _; omega
      · show (W.textF sk 52).1.length ≤ _; omega
      · show (pC sk).1.length ≤ _; omega
end Go.Sh.F
namespace Go.Sh.F
open Go.PathLaw Go.Proofs
theorem rdv_s (x : List UInt8) : W.rdv (.sl (W.bsv x) x.length .ro) x := .inr rfl
theorem x40r {st : List Ob} {x : List UInt8} (hx : x.length ≤ 268435456) : O212 40 [.sl (W.bsv x) x.length .ro] st (.ptr st.length 0) (st ++ [.cells [.sl (W.bsv x) x.length .ro, .int .i64 0, .int .i64 0]]) :=
  (.inl (.inl (.inl (.inl (.inl (.inl (.inl (.inl (.inl (.inl (.inl (.inl ((.inr (by repeat first | exact Or.inr ⟨rfl, .sl (W.bsv x) x.length .ro, x, .inr ⟨.ro, .inl rfl, rfl⟩, by omega, rfl, rfl, rfl⟩ | refine Or.inl ?_)))))))))))))))
theorem x42r {st : List Ob} {rid : Nat} {v : SV} {s : W.RdS} (h : rdOk v s) (hg : st[rid]? = some (.cells [v, .int .i64 s.p, .int .i64 s.e])) (most : Int) :
    O212 42 [.ptr rid 0, .int .i64 most] st (.int .i64 (W.numF s most).1) (setOb st rid [v, .int .i64 (W.numF s most).2.p, .int .i64 (W.numF s most).2.e]) :=
  (.inl (.inl (.inl (.inl (.inl (.inl (.inl (.inl (.inl (.inl (.inl (.inl ((.inr (by repeat first | exact Or.inr ⟨rfl, s, v, rid, most, h.1, h.2.1, h.2.2, hg, rfl, rfl, rfl⟩ | refine Or.inl ?_)))))))))))))))
theorem x44r {st : List Ob} {rid : Nat} {v : SV} {p e : Int} (hg : st[rid]? = some (.cells [v, .int .i64 p, .int .i64 e])) :
    O212 44 [.ptr rid 0] st (.int .i64 e) st :=
  (.inl (.inl (.inl (.inl (.inl (.inl (.inl (.inl (.inl (.inl (.inl (.inl ((.inr (by repeat first | exact Or.inr ⟨rfl, v, rid, p, e, hg, rfl, rfl, rfl⟩ | refine Or.inl ?_)))))))))))))))
theorem x45r {st : List Ob} {rid : Nat} {v : SV} {s : W.RdS} (h : rdOk v s) (hg : st[rid]? = some (.cells [v, .int .i64 s.p, .int .i64 s.e])) :
    O212 45 [.ptr rid 0] st (.int .i64 (W.endF s).e) (setOb st rid [v, .int .i64 (W.endF s).p, .int .i64 (W.endF s).e]) :=
  (.inl (.inl (.inl (.inl (.inl (.inl (.inl (.inl (.inl (.inl (.inl (.inl ((.inr (by repeat first | exact Or.inr ⟨rfl, s, v, rid, h.1, hg, rfl, rfl, rfl⟩ | refine Or.inl ?_)))))))))))))))
theorem x41r {F : W.RdS → List SV → List Ob} {rid tid : Nat} {v : SV} (hF : TwoOb F rid tid v) (s : W.RdS) (c : List SV) (os : List Nat) (hs : rdOk v s) (ho : ∀ o ∈ os, o < c.length) (hn : os.length ≤ 16777216) :
    O212 41 [.ptr rid 0, .sl (ptrs tid os) os.length .ro] (F s c) (.tup []) (F (numsF MX os.length s).2 (setL c os (numsF MX os.length s).1)) :=
  .inl (.inr ⟨rfl, by simp [sf41], g41 hF s c os _ hs ho hn (.inl rfl)⟩)
theorem x18r {m : Mf} {st : List Ob} (h : m.ok st) (hf : m.fit) (ho : okSt st) : O212 18 [.agg m.cells] st (.bool (rightM m)) st :=
  (by repeat first | exact Or.inr ⟨rfl, rfl, m, h, hf, ho, rfl, rfl⟩ | refine Or.inl ?_)
def two3 (st : List Ob) (A : Ob) (v : SV) : W.RdS → List SV → List Ob := fun s c => st ++ (A :: .cells c :: [.cells [v, .int .i64 s.p, .int .i64 s.e]])
theorem two3_ok (st : List Ob) (A : Ob) (v : SV) : TwoOb (two3 st A v) (st.length + 2) (st.length + 1) v where
  g1 s c := by unfold two3; rw [getA]; rfl
  g2 s c := by unfold two3; rw [getA]; rfl
  s1 s c s' := by unfold two3; rw [setA]; rfl
  s2 s c c' := by unfold two3; rw [setA]; rfl
theorem ev_s2bW {st : List Ob} {x : List UInt8} (h : x.length ≤ 1073741824) : ev st .s2b [.str x] = some (.sl (W.bsv x) x.length (.excl 1), [], st) := by
  show (if x.length ≤ 1073741824 then some (SV.sl (x.map fun b => .int .u8 b.toNat) x.length (.excl 1), [], st) else none) = _
  rw [if_pos h]; rfl
theorem st_ownW {st : List Ob} {id o n es : Nat} {xs : List SV} : ev st (.store 1 true) [.ptr id o, .sl xs n (.own es)] = apO (st[id]?) fun l => if o < l.length then some (.undef, [(1, .sl xs n .ro)], setOb st id (l.set o (.sl xs n (.own es)))) else none := by
  show (match st[id]? with | some (.cells l) => (if flg (.sl xs n (.own es)) then (if 1 = 1 ∧ o < l.length then some (SV.undef, [(1, ro (pub (.sl xs n (.own es))))], setOb st id (l.set o (pub (.sl xs n (.own es))))) else none) else _) | _ => none) = _
  unfold apO
  cases st[id]? with
  | none => rfl
  | some ob =>
    cases ob with
    | map => rfl
    | cells l =>
      show (if 1 = 1 ∧ o < l.length then _ else none) = _
      simp only [true_and]; rfl
theorem st_exclW {st : List Ob} {id o n es : Nat} {xs : List SV} : ev st (.store 1 true) [.ptr id o, .sl xs n (.excl es)] = apO (st[id]?) fun l => if o < l.length then some (.undef, [(1, .sl xs n .ro)], setOb st id (l.set o (.sl xs n (.own es)))) else none := by
  show (match st[id]? with | some (.cells l) => (if flg (.sl xs n (.excl es)) then (if 1 = 1 ∧ o < l.length then some (SV.undef, [(1, ro (pub (.sl xs n (.excl es))))], setOb st id (l.set o (pub (.sl xs n (.excl es))))) else none) else _) | _ => none) = _
  unfold apO
  cases st[id]? with
  | none => rfl
  | some ob =>
    cases ob with
    | map => rfl
    | cells l =>
      show (if 1 = 1 ∧ o < l.length then _ else none) = _
      simp only [true_and]; rfl
theorem retOf_c2 {p n id t : Nat} {s : S} {l : List SV} {r : SV} (h : s.get p = .ptr id 0) (h1 : s.st[id]? = some (.cells l)) (hn : n = l.length) (hr : ro (.agg l) = r) : retOf [.cell p n true, .tmp t] s = some (.tup [r, s.get t]) := by
  have := retOf_cell h h1 hn hr
  show (List.mapM (retV s) [.cell p n true, .tmp t]).map SV.tup = _
  have e : retV s (.cell p n true) = some r := this
  rw [List.mapM_cons, List.mapM_cons, e]; rfl
theorem idOks_bsvW {k : Nat} : ∀ x : List UInt8, idOks k (W.bsv x) = true
  | [] => rfl
  | _ :: x => idOks_bsvW x
theorem ro1_pvS (f : Nat) (L : List Pc) : ro1 (pvS (.own f) L) = pvS .ro L := by cases L <;> rfl
theorem ro1_pvR (L : List Pc) : ro1 (pvS .ro L) = pvS .ro L := by cases L <;> rfl
theorem cell_pvS (f : Fl) (L : List Pc) : isCell (pvS f L) = true := by cases L <;> rfl
theorem row_pvS (st : List Ob) (L : List Pc) : RowAt st (pvS .ro L) 7 L.length (L.flatMap Pc.cells) := by
  cases L with
  | nil => exact RowAt.nil
  | cons p l => exact ⟨flat_len (pc_len _), .inr (.inl ⟨.ro, .inl rfl, rfl⟩)⟩
theorem idOks_pcs {k : Nat} : ∀ {L : List Pc}, (∀ p ∈ L, idOk k p.cv = true) → idOks k (L.flatMap Pc.cells) = true
  | [], _ => rfl
  | p :: L, h => by
    rw [List.flatMap_cons, idOks_app, idOks_pcs (fun q hq => h q (List.mem_cons_of_mem _ hq)), Bool.and_true]
    simp [Pc.cells, idOks, idOk, h p List.mem_cons_self]
theorem idOk_pvS {k : Nat} {f : Fl} {L : List Pc} (h : ∀ p ∈ L, idOk k p.cv = true) : idOk k (pvS f L) = true := by
  cases L with
  | nil => rfl
  | cons p l => exact idOks_pcs h
theorem okSt_ps {st : List Ob} {A B C : Ob} {L : List Pc} (ho : okSt st) (h : ∀ p ∈ L, p.ok (st ++ (A :: B :: C :: pcObs L)))
    (hA : obOk (st ++ (A :: B :: C :: pcObs L)).length A = true) (hB : obOk (st ++ (A :: B :: C :: pcObs L)).length B = true) (hC : obOk (st ++ (A :: B :: C :: pcObs L)).length C = true) : okSt (st ++ (A :: B :: C :: pcObs L)) := by
  refine okSt_appL ho ?_
  rw [← List.length_append, List.all_cons, List.all_cons, List.all_cons, hA, hB, hC]
  simp only [Bool.true_and]
  rw [List.all_eq_true]
  intro o hoo
  obtain ⟨p, hp, ho2⟩ := List.mem_flatMap.1 hoo
  have hi : idOks (st ++ (A :: B :: C :: pcObs L)).length p.cells = true := by
    have := RowI.idOk (h p hp).1
    simp only [Pc.cells, idOks, idOk, this, Bool.and_self]
  simp only [List.mem_cons, List.not_mem_nil, or_false] at ho2
  rcases ho2 with rfl | rfl | rfl
  · exact hi
  · exact hi
  · exact idOks_isv _ _
set_option maxHeartbeats 32000000 in
set_option maxRecDepth 20000 in
theorem g22r (x : List UInt8) (st : List Ob) (hx : x.length ≤ 268435456) (ho : okSt st) : swpF O212 sf22 [.str x] st (fun r st' => r = .tup [.agg (rdM st x).cells, .int .i64 (rdC st x)] ∧ st' = rdT st x) := by
  obtain ⟨v, hve⟩ : ∃ v, SV.sl (W.bsv x) x.length .ro = v := ⟨_, rfl⟩
  have hv : W.rdv v x := hve ▸ rdv_s x
  have k40 := fun st => x40r (st := st) hx
  rw [hve] at k40
  have hs0 : rdOk v ⟨x, 0, 0⟩ := ⟨hv, by show x.length ≤ _; omega, Nat.zero_le _⟩
  have k41 := x41r (two3_ok st (.cells [.int .i64 0, .int .i64 0, .int .i64 0, .int .i64 0, .int .i64 0, .int .i64 0, .int .i64 0, .nilS]) v) ⟨x, 0, 0⟩ [.int .i64 0, .int .i64 0, .int .i64 0, .int .i64 0, .int .i64 0, .int .i64 0, .int .i64 0, .nilS] [0, 1, 2, 3, 4, 5, 6] hs0 (by simp) (by simp)
  obtain ⟨hs1, hl1, _⟩ := rdOk_nums (most := MX) 7 hs0
  obtain ⟨h0, h1, h2, h3, h4, h5, h6, s1, eH⟩ : ∃ h0 h1 h2 h3 h4 h5 h6 s1, numsF MX 7 ⟨x, 0, 0⟩ = ([h0, h1, h2, h3, h4, h5, h6], s1) := ⟨_, _, _, _, _, _, _, _, rfl⟩
  rw [show ([0, 1, 2, 3, 4, 5, 6] : List Nat).length = 7 from rfl, eH] at k41
  rw [eH] at hs1 hl1
  simp only [two3, setL, List.set_cons_succ, List.set_cons_zero, ptrs, List.map_cons, List.map_nil] at k41
  simp only at hs1 hl1
  obtain ⟨nn, hn1, hn2⟩ := numF_le (s := s1) (most := 32) (by decide) hs1.2.2
  obtain ⟨hs2, hl2⟩ := rdOk_num hs1 32
  obtain ⟨nz, s2, eN⟩ : ∃ nz s2, W.numF s1 32 = (nz, s2) := ⟨_, _, rfl⟩
  have k42 := fun st rid hg => x42r (st := st) (rid := rid) hs1 hg 32
  rw [eN] at hs2 hl2 hn1 k42
  simp only at hs2 hl2 hn1 k42
  subst hn1
  have hrH : hdS x = ([h0, h1, h2, h3, h4, h5, h6], s1) := eH
  have hrN : rdN x = ((nn : Int), s2) := by unfold rdN; rw [hrH]; exact eN
  have hs2b := fun s => ev_s2bW (st := s) (x := x) (by omega)
  have hcl : ∀ a b c : Nat, SV.sl (W.bsv x) x.length .ro = v := fun _ _ _ => hve
  have sZ : ∀ Y : List Ob, ev (st ++ (.cells [.int .i64 0, .int .i64 0, .int .i64 0, .int .i64 0, .int .i64 0, .int .i64 0, .int .i64 0, .nilS] :: Y)) (.store 8 true) [.ptr st.length 0, .agg [.int .i64 0, .int .i64 0, .int .i64 0, .int .i64 0, .int .i64 0, .int .i64 0, .int .i64 0, .nilS]] = some (.undef, [], st ++ (.cells [.int .i64 0, .int .i64 0, .int .i64 0, .int .i64 0, .int .i64 0, .int .i64 0, .int .i64 0, .nilS] :: Y)) := by
    intro Y
    have := st_aggA (st := st) (l := .cells [.int .i64 0, .int .i64 0, .int .i64 0, .int .i64 0, .int .i64 0, .int .i64 0, .int .i64 0, .nilS] :: Y) (i := 0) (n := 8) (b := true) (xs := [.int .i64 0, .int .i64 0, .int .i64 0, .int .i64 0, .int .i64 0, .int .i64 0, .int .i64 0, .nilS]) rfl rfl rfl rfl rfl
    rwa [Nat.add_zero] at this
  simp (maxSteps := 2000000) (disch := first | omega | simp only [List.length_append, List.length_cons, List.length_nil, List.length_map] <;> omega) only [sf22, hs2b, List.append_assoc, List.set_cons_zero, List.set_cons_succ, pub_excl2, flg_int, exc_int, exc_excl, swp_seq, swp_reg, swp_scope, seqK_n, evK_some, appK_eq, srun_nil, srun_cons, stepK_call, swpF_eq, sk_mv, sk_take, sk_give, sk_s2b, sk_alloc, get_mk, raw_slot, raw_lit, put_some, wb_nil, ev_mv, ev_take, ev_give, ev_alloc, ro_int, ro_str, got_excl, got_int, pubs, pubsFrom, List.map_cons, List.map_nil, List.getD_cons_zero, List.getD_cons_succ, List.length_cons, List.length_nil, List.replicate_succ, List.replicate_zero, List.cons_append, List.nil_append, Nat.reduceSub, Bool.false_eq_true, ↓reduceIte, Nat.zero_add, List.length_append]
  rw [hve]
  refine callK_intro (k40 _) ?_
  simp (maxSteps := 2000000) (disch := first | omega | simp only [List.length_append, List.length_cons, List.length_nil, List.length_map] <;> omega) only [cell_p, cv_ptr, List.append_assoc, Nat.add_zero, List.set_cons_zero, List.set_cons_succ, pub_excl2, flg_ptr, exc_ptr, exc_excl, swp_seq, swp_reg, seqK_n, evK_some, appK_eq, appC_eq, srun_nil, srun_cons, stepK_call, sk_mv, sk_give, sk_fld, sk_bsl, get_mk, raw_slot, put_some, wb_nil, wb_cons, ev_mv, ev_give, ev_fld, ev_bsl, ro_ptr, got_excl, got_ptr, pubs, pubsFrom, List.map_cons, List.map_nil, List.getD_cons_zero, List.getD_cons_succ, List.getElem?_cons_zero, List.length_cons, List.length_nil, List.replicate_succ, List.replicate_zero, List.cons_append, List.nil_append, Nat.reduceAdd, Nat.reduceLeDiff, Nat.reduceLT, and_true, Bool.false_eq_true, Option.map_some, ↓reduceIte, List.all_cons, List.all_nil, Bool.and_self, List.zip_cons_cons, List.zip_nil_right, rep, fillV, wrCells, List.flatten_cons, List.flatten_nil, List.append_nil, decide_true, Nat.mul_one, Nat.zero_add, List.length_append, Nat.le_refl]
  refine callK_intro k41 ?_
  simp (maxSteps := 2000000) (disch := first | omega | simp only [List.length_append, List.length_cons, List.length_nil, List.length_map] <;> omega) only [List.set_cons_zero, List.set_cons_succ, exc_int, exc_ptr, swp_seq, swp_reg, seqK_n, evK_some, appK_eq, appC_eq, srun_nil, srun_cons, stepK_call, sk_mv, get_mk, raw_slot, raw_lit, put_some, wb_nil, wb_cons, ev_mv, ro_ptr, got_int, got_ptr, pubs, pubsFrom, List.map_cons, List.map_nil, List.getD_cons_zero, List.getD_cons_succ, List.getElem?_cons_zero, List.getElem?_cons_succ, Bool.false_eq_true, ↓reduceIte]
  refine callK_intro (k42 _ _ (by rw [getA]; rfl)) ?_
  simp (maxSteps := 2000000) (disch := first | omega | simp only [List.length_append, List.length_cons, List.length_nil, List.length_map] <;> omega) only [setA, List.set_cons_zero, List.set_cons_succ, flg_int, swp_seq, swp_reg, swp_block, seqK_n, evK_some, appK_eq, appC_eq, srun_nil, srun_cons, sk_mv, sk_give, get_mk, raw_slot, raw_lit, put_some, wb_nil, ev_mv, ev_give, ro_int, List.map_cons, List.map_nil, List.getD_cons_zero, List.getD_cons_succ, Bool.false_eq_true, ↓reduceIte]
  refine swp_lp (fun S => ∃ (i : Nat), i ≤ nn ∧ S = ⟨[.undef, .undef, .ptr st.length 0, .int .i64 0, .ptr (st.length + 1) 0, .undef, .ptr (st.length + 2) 0] ++ List.replicate 15 .undef ++ [.int .i64 nn, .int .i64 i] ++ List.replicate 22 .undef, st ++ (.cells [.int .i64 0, .int .i64 0, .int .i64 0, .int .i64 0, .int .i64 0, .int .i64 0, .int .i64 0, .nilS] :: .cells [.int .i64 h0, .int .i64 h1, .int .i64 h2, .int .i64 h3, .int .i64 h4, .int .i64 h5, .int .i64 h6, pvS (.own 7) (psF (st.length + 3) i s2).1] :: .cells [v, .int .i64 (psF (st.length + 3) i s2).2.p, .int .i64 (psF (st.length + 3) i s2).2.e] :: pcObs (psF (st.length + 3) i s2).1)⟩)
      (fun S => match S.get 23 with | .int _ k => ((nn : Int) - k).toNat | _ => 0)
      ⟨[.undef, .undef, .ptr st.length 0, .int .i64 0, .ptr (st.length + 1) 0, .undef, .ptr (st.length + 2) 0] ++ List.replicate 15 .undef ++ [.int .i64 nn, .int .i64 (0 : Nat)] ++ List.replicate 22 .undef, st ++ (.cells [.int .i64 0, .int .i64 0, .int .i64 0, .int .i64 0, .int .i64 0, .int .i64 0, .int .i64 0, .nilS] :: .cells [.int .i64 h0, .int .i64 h1, .int .i64 h2, .int .i64 h3, .int .i64 h4, .int .i64 h5, .int .i64 h6, pvS (.own 7) (psF (st.length + 3) 0 s2).1] :: .cells [v, .int .i64 (psF (st.length + 3) 0 s2).2.p, .int .i64 (psF (st.length + 3) 0 s2).2.e] :: pcObs (psF (st.length + 3) 0 s2).1)⟩ ?_ ⟨0, Nat.zero_le _, rfl⟩ ?_
  · refine Forget.of ?_
    repeat first | exact fg_e | refine fg_d ?_ | refine fg_k rfl ?_
  rintro S ⟨i, hi, rfl⟩
  obtain ⟨hsi, hli⟩ := rdOk_ps (st.length + 3) i hs2
  have hLl := psF_len (st.length + 3) i s2
  have hnext : psF (st.length + 3) (i + 1) s2 = ((psF (st.length + 3) i s2).1 ++ [pcF (st.length + 3 + (3 * i + 2)) (psF (st.length + 3) i s2).2], (pC (psF (st.length + 3) i s2).2).2) := rfl
  obtain ⟨L, si, eL⟩ : ∃ L si, psF (st.length + 3) i s2 = (L, si) := ⟨_, _, rfl⟩
  rw [eL] at hsi hli hLl hnext ⊢
  simp only at hsi hli hLl hnext ⊢
  by_cases him : i = nn
  · have hd : decide ((i : Int) < (nn : Int)) = false := by rw [decide_eq_false_iff_not]; omega
    subst him
    have hrP : rdP (st.length + 3) x = (L, si) := by unfold rdP; rw [hrN]; exact eL
    have hmf : ∀ f, mfR f (st.length + 3) x = ⟨h0, h1, h2, h3, h4, h5, h6, pvS f L, L⟩ := by intro f; unfold mfR; rw [hrH, hrP]; rfl
    have hrow := psF_row (st := st) (A := .cells [.int .i64 0, .int .i64 0, .int .i64 0, .int .i64 0, .int .i64 0, .int .i64 0, .int .i64 0, .nilS]) (B := .cells [.int .i64 h0, .int .i64 h1, .int .i64 h2, .int .i64 h3, .int .i64 h4, .int .i64 h5, .int .i64 h6, pvS (.own 7) L]) (C := .cells [v, .int .i64 (W.endF si).p, .int .i64 (W.endF si).e]) i hs2 (by rw [hl2, hl1]; omega)
    rw [eL] at hrow
    simp only at hrow
    simp (maxSteps := 2000000) (disch := first | omega | simp only [List.length_append, List.length_cons, List.length_nil, List.length_map] <;> omega) only [hd, List.set_cons_zero, List.set_cons_succ, lpK_e, exc_ptr, swp_seq, swp_reg, swp_exit, swp_cond, seqK_n, seqK_e, blkK_e, condK_f, evK_some, appK_eq, srun_nil, srun_cons, stepK_call, sk_mv, sk_bin, get_mk, raw_slot, put_some, wb_nil, ev_mv, bin_lss, ro_ptr, got_ptr, pubs, pubsFrom, List.map_cons, List.map_nil, List.getD_cons_zero, List.getD_cons_succ, List.length_cons, List.length_nil, List.replicate_succ, List.replicate_zero, List.cons_append, List.nil_append, Nat.reduceAdd, Bool.false_eq_true, ↓reduceIte, Nat.zero_add, List.length_append]
    refine callK_intro (x45r hsi (by rw [getA]; rfl)) ?_
    by_cases hE : (W.endF si).e = 0
    · have hne : ((W.endF si).e != 0) = false := by rw [hE]; rfl
      have hids : ∀ p ∈ L, idOk (st ++ (.cells [.int .i64 0, .int .i64 0, .int .i64 0, .int .i64 0, .int .i64 0, .int .i64 0, .int .i64 0, .nilS] :: .cells [.int .i64 h0, .int .i64 h1, .int .i64 h2, .int .i64 h3, .int .i64 h4, .int .i64 h5, .int .i64 h6, pvS (.own 7) L] :: .cells [v, .int .i64 (W.endF si).p, .int .i64 (W.endF si).e] :: pcObs L)).length p.cv = true := fun p hp => RowI.idOk (hrow p hp).1.1
      have hso : okSt (st ++ (.cells [.int .i64 0, .int .i64 0, .int .i64 0, .int .i64 0, .int .i64 0, .int .i64 0, .int .i64 0, .nilS] :: .cells [.int .i64 h0, .int .i64 h1, .int .i64 h2, .int .i64 h3, .int .i64 h4, .int .i64 h5, .int .i64 h6, pvS (.own 7) L] :: .cells [v, .int .i64 (W.endF si).p, .int .i64 (W.endF si).e] :: pcObs L)) := okSt_ps ho (fun p hp => (hrow p hp).1) (by rfl) (by
        show idOks _ _ = true
        simp only [idOks, idOk, Bool.true_and, Bool.and_true]
        exact idOk_pvS hids) (by
        show idOks _ _ = true
        rw [← hve]
        simp only [idOks, idOk, Bool.and_true]
        exact idOks_bsvW x)
      have hmo : (⟨h0, h1, h2, h3, h4, h5, h6, pvS .ro L, L⟩ : Mf).ok (st ++ (.cells [.int .i64 0, .int .i64 0, .int .i64 0, .int .i64 0, .int .i64 0, .int .i64 0, .int .i64 0, .nilS] :: .cells [.int .i64 h0, .int .i64 h1, .int .i64 h2, .int .i64 h3, .int .i64 h4, .int .i64 h5, .int .i64 h6, pvS (.own 7) L] :: .cells [v, .int .i64 (W.endF si).p, .int .i64 (W.endF si).e] :: pcObs L)) := ⟨row_pvS _ L, by show L.length ≤ _; omega, fun p hp => (hrow p hp).1⟩
      have hmfit : (⟨h0, h1, h2, h3, h4, h5, h6, pvS .ro L, L⟩ : Mf).fit := by
        have := numsF_le 7 hs0 h1 (by rw [eH]; simp)
        unfold Mf.fit; exact ⟨by show _ ≤ h1; omega, by show h1 ≤ _; have := this.2; simp only [MX] at this; omega⟩
      have k18 := x18r hmo hmfit hso
      simp only [Mf.cells] at k18
      have qP := ro1_pvS 7 L
      have qR := ro1_pvR L
      have qC := cell_pvS .ro L
      simp (maxSteps := 2000000) (disch := first | omega | simp only [List.length_append, List.length_cons, List.length_nil, List.length_map] <;> omega) only [hne, qP, qR, getA, setA, ev_ldA, List.drop_zero, List.take_succ_cons, List.take_zero, List.set_cons_zero, List.set_cons_succ, apO_some, exc_agg, evK_some, appK_eq, appC_eq, grd_t, srun_cons, stepK_call, stepK_grd, sk_mv, sk_bin, sk_load, get_mk, raw_slot, raw_lit, put_some, wb_nil, ev_mv, bin_neq, ro_bool, ro_agg, ro1_int, got_agg, pubs, pubsFrom, List.map_cons, List.map_nil, List.getD_cons_zero, List.getD_cons_succ, List.getElem?_cons_zero, List.getElem?_cons_succ, List.length_cons, List.length_nil, Nat.reduceAdd, Bool.false_eq_true, ↓reduceIte, Nat.zero_add, Nat.le_refl]
      refine callK_intro k18 ?_
      cases hR : rightM ⟨h0, h1, h2, h3, h4, h5, h6, pvS .ro L, L⟩ with
      | true =>
        have hb : okR (st.length + 3) x = true := by unfold okR; rw [hmf, hrP, hR]; simp [hE]
        have e1 : rdM st x = ⟨h0, h1, h2, h3, h4, h5, h6, pvS .ro L, L⟩ := by unfold rdM; rw [hb, hmf]; rfl
        have e2 : rdC st x = 0 := by unfold rdC; rw [hb]; rfl
        have e3 : rdT st x = st ++ (.cells [.int .i64 h0, .int .i64 h1, .int .i64 h2, .int .i64 h3, .int .i64 h4, .int .i64 h5, .int .i64 h6, pvS .ro L] :: .cells [.int .i64 h0, .int .i64 h1, .int .i64 h2, .int .i64 h3, .int .i64 h4, .int .i64 h5, .int .i64 h6, pvS (.own 7) L] :: .cells [v, .int .i64 (W.endF si).p, .int .i64 (W.endF si).e] :: pcObs L) := by
          unfold rdT; rw [hb, hmf, hmf, hrP, hve]; rfl
        have sM : ∀ Y : List Ob, ev (st ++ (.cells [.int .i64 0, .int .i64 0, .int .i64 0, .int .i64 0, .int .i64 0, .int .i64 0, .int .i64 0, .nilS] :: Y)) (.store 8 true) [.ptr st.length 0, .agg [.int .i64 h0, .int .i64 h1, .int .i64 h2, .int .i64 h3, .int .i64 h4, .int .i64 h5, .int .i64 h6, pvS .ro L]] = some (.undef, [], st ++ (.cells [.int .i64 h0, .int .i64 h1, .int .i64 h2, .int .i64 h3, .int .i64 h4, .int .i64 h5, .int .i64 h6, pvS .ro L] :: Y)) := by
          intro Y
          have := st_aggA (st := st) (l := .cells [.int .i64 0, .int .i64 0, .int .i64 0, .int .i64 0, .int .i64 0, .int .i64 0, .int .i64 0, .nilS] :: Y) (i := 0) (n := 8) (b := true) (xs := [.int .i64 h0, .int .i64 h1, .int .i64 h2, .int .i64 h3, .int .i64 h4, .int .i64 h5, .int .i64 h6, pvS .ro L]) rfl (by simp only [List.map_cons, List.map_nil, qR]; rfl) (by simp only [List.all_cons, List.all_nil, qC]; rfl) rfl rfl
          rwa [Nat.add_zero] at this
        simp only [e1, e2, e3, Mf.cells]
        simp (maxSteps := 2000000) (disch := first | omega | simp only [List.length_append, List.length_cons, List.length_nil, List.length_map] <;> omega) only [qP, sM, getA, ev_ldA, List.drop_zero, List.take_succ_cons, List.take_zero, List.set_cons_zero, List.set_cons_succ, apO_some, flg_int, swp_seq, swp_reg, swp_skip, swp_ret, swp_cond, seqK_n, seqK_r, scpK_r, condK_f, evK_some, appK_eq, appC_eq, grd_t, srun_nil, srun_cons, stepK_grd, sk_give, sk_pick, sk_un, sk_load, sk_store, get_mk, raw_slot, raw_lit, put_some, put_none, wb_nil, ev_give, ev_pick, ev_not, ro_int, ro_bool, ro_agg, ro1_int, List.map_cons, List.map_nil, List.getD_cons_zero, List.getD_cons_succ, List.getElem?_cons_zero, List.getElem?_cons_succ, List.length_cons, List.length_nil, Nat.reduceAdd, Bool.false_eq_true, ↓reduceIte, Nat.zero_add, Bool.not_true, Nat.le_refl]
        exact ⟨_, _, retOf_c2 (n := 8) (id := st.length) (t := 3) (l := [.int .i64 h0, .int .i64 h1, .int .i64 h2, .int .i64 h3, .int .i64 h4, .int .i64 h5, .int .i64 h6, pvS .ro L]) (r := .agg [.int .i64 h0, .int .i64 h1, .int .i64 h2, .int .i64 h3, .int .i64 h4, .int .i64 h5, .int .i64 h6, pvS .ro L]) rfl (by rw [getA0]; rfl) rfl (by show SV.agg (List.map ro1 _) = _; simp only [List.map_cons, List.map_nil, qR]; rfl), .same, rfl, rfl⟩
      | false =>
        have hb : okR (st.length + 3) x = false := by unfold okR; rw [hmf, hrP, hR, Bool.and_false]
        have e1 : rdM st x = Mf.none := by unfold rdM; rw [hb]; rfl
        have e2 : rdC st x = 4 := by unfold rdC; rw [hb]; rfl
        have e3 : rdT st x = st := by unfold rdT; rw [hb]; rfl
        simp only [e1, e2, e3]
        simp (maxSteps := 2000000) (disch := first | omega | simp only [List.length_append, List.length_cons, List.length_nil, List.length_map] <;> omega) only [sZ, List.set_cons_zero, List.set_cons_succ, flg_int, swp_seq, swp_reg, swp_skip, swp_ret, swp_goto, swp_cond, seqK_n, seqK_g, noG_r, scpK_g, condK_t, evK_some, appK_eq, appC_eq, grd_t, srun_nil, srun_cons, stepK_grd, sk_give, sk_pick, sk_un, sk_store, sk_bld, get_mk, raw_slot, raw_lit, put_some, put_none, wb_nil, ev_give, ev_pick, ev_not, ev_bld, ro_int, ro_bool, pubs, pubsFrom, List.map_cons, List.map_nil, List.getD_cons_zero, List.getD_cons_succ, List.length_nil, Bool.false_eq_true, Option.map_some, ↓reduceIte, List.zip_nil_right, fillV, Bool.not_false]
        exact ⟨_, _, retOf_c2 (n := 8) (id := st.length) (t := 3) (l := [.int .i64 0, .int .i64 0, .int .i64 0, .int .i64 0, .int .i64 0, .int .i64 0, .int .i64 0, .nilS]) (r := .agg [.int .i64 0, .int .i64 0, .int .i64 0, .int .i64 0, .int .i64 0, .int .i64 0, .int .i64 0, .nilS]) rfl (by rw [getA0]; rfl) rfl rfl, trim1 ho rfl, rfl, rfl⟩
    · have hne : ((W.endF si).e != 0) = true := by rw [bne_iff_ne]; exact hE
      have hb : okR (st.length + 3) x = false := by
        unfold okR; rw [hrP, Bool.and_eq_false_iff]
        exact .inl (by rw [beq_eq_false_iff_ne]; exact hE)
      have e1 : rdM st x = Mf.none := by unfold rdM; rw [hb]; rfl
      have e2 : rdC st x = 4 := by unfold rdC; rw [hb]; rfl
      have e3 : rdT st x = st := by unfold rdT; rw [hb]; rfl
      simp only [e1, e2, e3]
      simp (maxSteps := 2000000) (disch := first | omega | simp only [List.length_append, List.length_cons, List.length_nil, List.length_map] <;> omega) only [hne, sZ, setA, List.set_cons_zero, List.set_cons_succ, flg_int, swp_seq, swp_reg, swp_skip, swp_ret, swp_goto, swp_cond, seqK_n, seqK_g, noG_r, scpK_g, condK_t, evK_some, appK_eq, appC_eq, grd_t, srun_nil, srun_cons, stepK_grd, sk_mv, sk_give, sk_pick, sk_bin, sk_store, sk_bld, get_mk, raw_slot, raw_lit, put_some, put_none, wb_nil, ev_mv, ev_give, ev_pick, bin_neq, ev_bld, ro_int, ro_bool, pubs, pubsFrom, List.map_cons, List.map_nil, List.getD_cons_zero, List.getD_cons_succ, List.length_nil, Bool.false_eq_true, Option.map_some, ↓reduceIte, List.zip_nil_right, fillV, reduceCtorEq]
      exact ⟨_, _, retOf_c2 (n := 8) (id := st.length) (t := 3) (l := [.int .i64 0, .int .i64 0, .int .i64 0, .int .i64 0, .int .i64 0, .int .i64 0, .int .i64 0, .nilS]) (r := .agg [.int .i64 0, .int .i64 0, .int .i64 0, .int .i64 0, .int .i64 0, .int .i64 0, .int .i64 0, .nilS]) rfl (by rw [getA0]; rfl) rfl rfl, trim1 ho rfl, rfl, rfl⟩
  have hd : decide ((i : Int) < (nn : Int)) = true := by rw [decide_eq_true_eq]; omega
  have fin : ((nn : Int) - ((i + 1 : Nat) : Int)).toNat < ((nn : Int) - (i : Int)).toNat := by omega
  have hid : st.length + 3 + ((pcObs L).length + 2) = st.length + 3 + (3 * i + 2) := by rw [pcObs_len, hLl]
  have kP := fun A B => xPc (st := st) hsi A B (pcObs L)
  rw [hid] at kP
  have mP : (pcF (st.length + 3 + (3 * i + 2)) si).cells.map ro1 = (pcF (st.length + 3 + (3 * i + 2)) si).cells := rfl
  have cP : (pcF (st.length + 3 + (3 * i + 2)) si).cells.all isCell = true := rfl
  have lP : (pcF (st.length + 3 + (3 * i + 2)) si).cells.length = 7 := rfl
  have wP : wrCells [.str [], .bool false, .int .i64 0, .nilS, .int .i64 0, .int .i64 0, .int .i64 0] 0 (pcF (st.length + 3 + (3 * i + 2)) si).cells = (pcF (st.length + 3 + (3 * i + 2)) si).cells := rfl
  have hP : (pcF (st.length + 3 + (3 * i + 2)) si).ch = (pC si).1 := rfl
  obtain ⟨P, eP⟩ : ∃ P, pcF (st.length + 3 + (3 * i + 2)) si = P := ⟨_, rfl⟩
  rw [eP] at kP hnext mP cP lP wP hP
  simp (maxSteps := 2000000) (disch := first | omega | simp only [List.length_append, List.length_cons, List.length_nil, List.length_map] <;> omega) only [hd, List.set_cons_zero, List.set_cons_succ, swp_seq, swp_reg, swp_skip, swp_block, swp_cond, seqK_n, condK_t, evK_some, appK_eq, srun_nil, srun_cons, sk_mv, sk_bin, sk_fld, get_mk, raw_slot, put_some, wb_nil, ev_mv, ev_fld, bin_lss, ro_ptr, List.map_cons, List.map_nil, List.getD_cons_zero, List.getD_cons_succ, List.length_cons, List.length_nil, List.replicate_succ, List.replicate_zero, List.cons_append, List.nil_append, Nat.reduceAdd, Nat.zero_add, List.length_append]
  have hbad : (pC si).2.e ≠ 0 → okR (st.length + 3) x = false := by
    intro hne
    have e1 : (psF (st.length + 3) (i + 1) s2).2.e ≠ 0 := by rw [hnext]; exact hne
    have e2 := psF_err (st.length + 3) s2 e1 (nn - (i + 1))
    rw [show i + 1 + (nn - (i + 1)) = nn by omega] at e2
    unfold okR
    rw [show (rdP (st.length + 3) x).2 = (psF (st.length + 3) nn s2).2 by unfold rdP; rw [hrN]; rfl, e2, W.endF_err e1, Bool.and_eq_false_iff]
    exact .inl (by rw [beq_eq_false_iff_ne]; exact e1)
  rcases List.eq_nil_or_concat L with hL | hL
  · subst hL
    have hi0 : i = 0 := by rw [← hLl]; rfl
    subst hi0
    rw [show pvS (.own 7) [] = .nilS from rfl, show pcObs [] = [] from rfl]
    rw [show pcObs [] = [] from rfl] at kP
    apply swp_to
    · repeat' first
        | exact swp_ttI
        | refine swp_bothI ?_ ?_
        | refine callK_intro (kP _ _) ?_
        | exact ⟨rfl, rfl⟩
        | exact rfl
        | simp (maxSteps := 2000000) (disch := first | omega | simp only [List.length_append, List.length_cons, List.length_nil, List.length_map] <;> omega) only [mP, cP, lP, wP, st_exclW, cv_agg, getA, setA, List.set_cons_zero, List.set_cons_succ, sk_loadG, ev_loadG, apO_some, flg_nilS, exc_ptr, exc_agg, swp_reg, evK_some, appK_eq, appC_eq, srun_nil, srun_cons, stepK_call, sk_fld, sk_store, sk_bsl, sk_app, get_mk, raw_slot, put_some, put_none, wb_nil, wb_cons, ev_fld, ev_bsl, ro_nilS, got_ptr, got_agg, pubs, pubsFrom, List.map_cons, List.map_nil, List.getD_cons_zero, List.getD_cons_succ, List.getElem?_cons_zero, List.getElem?_cons_succ, List.length_cons, List.length_nil, List.replicate_succ, List.replicate_zero, List.nil_append, Nat.reduceAdd, Nat.reduceLT, true_and, and_true, Bool.false_eq_true, Option.map_some, ↓reduceIte, List.all_cons, List.all_nil, Bool.and_self, List.zip_cons_cons, List.zip_nil_right, rep, fillV, List.flatten_cons, List.flatten_nil, List.append_nil, decide_true, Nat.zero_mul, Nat.zero_add, Int.cast_ofNat_Int, Nat.le_refl, app_nil]
    have hpv : pvS (.own 7) ([] ++ [P]) = .sl P.cells 1 (.own 7) := by rw [List.nil_append]; exact pvS_ne _ (l := [P]) (by simp) |>.trans (by simp)
    simp (maxSteps := 2000000) (disch := first | omega | simp only [List.length_append, List.length_cons, List.length_nil, List.length_map] <;> omega) only [List.set_cons_zero, List.set_cons_succ, exc_ptr, swp_seq, swp_reg, seqK_n, evK_some, appK_eq, srun_cons, stepK_call, sk_mv, get_mk, raw_slot, put_some, wb_nil, ev_mv, ro_ptr, got_ptr, pubs, pubsFrom, List.map_cons, List.map_nil, List.getD_cons_zero, List.getD_cons_succ, Bool.false_eq_true, ↓reduceIte, Int.cast_ofNat_Int]
    refine callK_intro (x44r (by rw [getA]; rfl)) ?_
    by_cases hE : (pC si).2.e = 0
    · have hne : ((pC si).2.e != 0) = false := by rw [hE]; rfl
      simp (maxSteps := 2000000) (disch := first | omega | simp only [List.length_append, List.length_cons, List.length_nil, List.length_map] <;> omega) only [hne, List.set_cons_zero, List.set_cons_succ, lpK_n, swp_reg, swp_skip, swp_cond, seqK_n, blkK_n, condK_f, evK_some, appK_eq, appC_eq, srun_nil, srun_cons, sk_mv, sk_bin, get_mk, raw_slot, raw_lit, put_some, wb_nil, ev_mv, bin_add, bin_neq, ro_int, List.map_cons, List.map_nil, List.getD_cons_zero, List.getD_cons_succ, Int.reduceAdd, wrap_i64]
      refine ⟨_, ?_, ⟨0 + 1, by omega, rfl⟩, by exact fin⟩
      rw [hnext]
      simp only [pcObs_snoc, hP, hpv]
      refine Forget.of ?_
      repeat first | exact fg_e | refine fg_d ?_ | refine fg_k rfl ?_
    · have hne : ((pC si).2.e != 0) = true := by rw [bne_iff_ne]; exact hE
      have hb := hbad hE
      have e1 : rdM st x = Mf.none := by unfold rdM; rw [hb]; rfl
      have e2 : rdC st x = 4 := by unfold rdC; rw [hb]; rfl
      have e3 : rdT st x = st := by unfold rdT; rw [hb]; rfl
      simp only [e1, e2, e3]
      simp (maxSteps := 2000000) (disch := first | omega | simp only [List.length_append, List.length_cons, List.length_nil, List.length_map] <;> omega) only [hne, sZ, List.set_cons_zero, List.set_cons_succ, lpK_g, flg_int, swp_seq, swp_reg, swp_skip, swp_ret, swp_goto, swp_cond, seqK_n, seqK_g, blkK_g, noG_r, scpK_g, condK_t, evK_some, appK_eq, appC_eq, srun_nil, srun_cons, sk_give, sk_bin, sk_store, sk_bld, get_mk, raw_slot, raw_lit, put_some, put_none, wb_nil, ev_give, bin_neq, ev_bld, ro_int, pubs, pubsFrom, List.map_cons, List.map_nil, List.getD_cons_zero, List.getD_cons_succ, List.length_nil, Bool.false_eq_true, Option.map_some, ↓reduceIte, List.zip_nil_right, fillV]
      exact ⟨_, _, retOf_c2 (n := 8) (id := st.length) (t := 3) (l := [.int .i64 0, .int .i64 0, .int .i64 0, .int .i64 0, .int .i64 0, .int .i64 0, .int .i64 0, .nilS]) (r := .agg [.int .i64 0, .int .i64 0, .int .i64 0, .int .i64 0, .int .i64 0, .int .i64 0, .int .i64 0, .nilS]) rfl (by rw [getA0]; rfl) rfl rfl, trim1 ho rfl, rfl, rfl⟩
  have hLn : L ≠ [] := by obtain ⟨a, b, rfl⟩ := hL; simp
  rw [pvS_ne _ hLn]
  have hFl : (L.flatMap Pc.cells).length = i * 7 := by rw [flat_len (pc_len _), hLl]
  rw [hLl]
  obtain ⟨F, eF⟩ : ∃ F, L.flatMap Pc.cells = F := ⟨_, rfl⟩
  rw [eF] at hFl ⊢
  apply swp_to
  · repeat' first
      | exact swp_ttI
      | refine swp_bothI ?_ ?_
      | refine callK_intro (kP _ _) ?_
      | exact ⟨rfl, rfl⟩
      | exact rfl
      | simp (maxSteps := 2000000) (disch := first | omega | simp only [List.length_append, List.length_cons, List.length_nil, List.length_map] <;> omega) only [mP, cP, lP, wP, st_ownW, cv_agg, getA, setA, List.set_cons_zero, List.set_cons_succ, app_own, sk_loadG, ev_loadG, apO_some, flg_own, exc_ptr, exc_agg, swp_reg, evK_some, appK_eq, appC_eq, srun_nil, srun_cons, stepK_call, sk_fld, sk_store, sk_bsl, sk_app, get_mk, raw_slot, put_some, put_none, wb_nil, wb_cons, ev_fld, ev_bsl, ro_own, got_ptr, got_agg, pubs, pubsFrom, List.map_cons, List.map_nil, List.getD_cons_zero, List.getD_cons_succ, List.getElem?_cons_zero, List.getElem?_cons_succ, List.length_cons, List.length_nil, List.replicate_succ, List.replicate_zero, Nat.reduceAdd, Nat.reduceLT, true_and, and_true, Bool.false_eq_true, Option.map_some, ↓reduceIte, List.all_cons, List.all_nil, Bool.and_self, List.zip_cons_cons, List.zip_nil_right, rep, fillV, List.flatten_cons, List.flatten_nil, List.append_nil, decide_true, Nat.zero_mul, Nat.zero_add, Nat.le_refl]
  have hpv : pvS (.own 7) (L ++ [P]) = .sl (F ++ P.cells) (i + 1) (.own 7) := by rw [pvS_ne _ (by simp), List.flatMap_append, eF, List.length_append, hLl]; simp
  simp (maxSteps := 2000000) (disch := first | omega | simp only [List.length_append, List.length_cons, List.length_nil, List.length_map] <;> omega) only [List.set_cons_zero, List.set_cons_succ, exc_ptr, swp_seq, swp_reg, seqK_n, evK_some, appK_eq, srun_cons, stepK_call, sk_mv, get_mk, raw_slot, put_some, wb_nil, ev_mv, ro_ptr, got_ptr, pubs, pubsFrom, List.map_cons, List.map_nil, List.getD_cons_zero, List.getD_cons_succ, Bool.false_eq_true, ↓reduceIte]
  refine callK_intro (x44r (by rw [getA]; rfl)) ?_
  by_cases hE : (pC si).2.e = 0
  · have hne : ((pC si).2.e != 0) = false := by rw [hE]; rfl
    simp (maxSteps := 2000000) (disch := first | omega | simp only [List.length_append, List.length_cons, List.length_nil, List.length_map] <;> omega) only [hne, List.set_cons_zero, List.set_cons_succ, lpK_n, swp_reg, swp_skip, swp_cond, seqK_n, blkK_n, condK_f, evK_some, appK_eq, appC_eq, srun_nil, srun_cons, sk_mv, sk_bin, get_mk, raw_slot, raw_lit, put_some, wb_nil, ev_mv, bin_add, bin_neq, ro_int, List.map_cons, List.map_nil, List.getD_cons_zero, List.getD_cons_succ, wrap_i64]
    refine ⟨_, ?_, ⟨i + 1, by omega, rfl⟩, by exact fin⟩
    rw [hnext]
    simp only [pcObs_snoc, hP, hpv]
    refine Forget.of ?_
    repeat first | exact fg_e | refine fg_d ?_ | refine fg_k rfl ?_
  · have hne : ((pC si).2.e != 0) = true := by rw [bne_iff_ne]; exact hE
    have hb := hbad hE
    have e1 : rdM st x = Mf.none := by unfold rdM; rw [hb]; rfl
    have e2 : rdC st x = 4 := by unfold rdC; rw [hb]; rfl
    have e3 : rdT st x = st := by unfold rdT; rw [hb]; rfl
    simp only [e1, e2, e3]
    simp (maxSteps := 2000000) (disch := first | omega | simp only [List.length_append, List.length_cons, List.length_nil, List.length_map] <;> omega) only [hne, sZ, List.set_cons_zero, List.set_cons_succ, lpK_g, flg_int, swp_seq, swp_reg, swp_skip, swp_ret, swp_goto, swp_cond, seqK_n, seqK_g, blkK_g, noG_r, scpK_g, condK_t, evK_some, appK_eq, appC_eq, srun_nil, srun_cons, sk_give, sk_bin, sk_store, sk_bld, get_mk, raw_slot, raw_lit, put_some, put_none, wb_nil, ev_give, bin_neq, ev_bld, ro_int, pubs, pubsFrom, List.map_cons, List.map_nil, List.getD_cons_zero, List.getD_cons_succ, List.length_nil, Bool.false_eq_true, Option.map_some, ↓reduceIte, List.zip_nil_right, fillV]
    exact ⟨_, _, retOf_c2 (n := 8) (id := st.length) (t := 3) (l := [.int .i64 0, .int .i64 0, .int .i64 0, .int .i64 0, .int .i64 0, .int .i64 0, .int .i64 0, .nilS]) (r := .agg [.int .i64 0, .int .i64 0, .int .i64 0, .int .i64 0, .int .i64 0, .int .i64 0, .int .i64 0, .nilS]) rfl (by rw [getA0]; rfl) rfl rfl, trim1 ho rfl, rfl, rfl⟩
end Go.Sh.F
namespace Go.Sh.F
open Go.PathLaw Go.Proofs
def KRd : List SV → List Ob → SV → List Ob → Prop := fun args st r st' => ∃ x : List UInt8, x.length ≤ 268435456 ∧ okSt st ∧ args = [.str x] ∧ r = .tup [.agg (rdM st x).cells, .int .i64 (rdC st x)] ∧ st' = rdT st x
def O213 : Orc := O212.add 22 KRd
theorem s213 : Sound Tryd.prog O213 := s212.add c22 (by kernel_rfl) (by
  rintro args st r st' ⟨x, hx, ho, rfl, rfl, rfl⟩
  exact ⟨by simp [sf22], g22r x st hx ho⟩)
def mOne (v : SV) : Mf := ⟨1, 2, 7, 3, 4, 0, 0, v, [⟨[97, 47, 98], true, 65, .sl (isv [8, 9]) 2 .ro, [8, 9], 5, 0, 1⟩, ⟨[99], false, 0, .nilS, [], 0, 1, 0⟩]⟩
def bOne : List UInt8 := bytesF (mOne .nilS)
theorem ok1 (b : Nat) : okR b bOne = true := by kernel_rfl
theorem ok2 (b : Nat) : okR b (bOne ++ [0]) = false := by kernel_rfl
theorem ok3 (b : Nat) : okR b (bOne.take 36) = false := by kernel_rfl
theorem len1 : bOne.length = 100 := by kernel_rfl
theorem ch1 : chF (mOne .nilS).ps = [8, 9] := by kernel_rfl
theorem rt1 (v : SV) : rightM (mOne v) = true := by kernel_rfl
def mOff (v : SV) : Mf := { mOne v with ps := [⟨[97, 47, 98], true, 64, .sl (isv [8, 9]) 2 .ro, [8, 9], 5, 0, 1⟩, ⟨[99], false, 0, .nilS, [], 0, 1, 0⟩] }
theorem rt2 (v : SV) : rightM (mOff v) = false := by kernel_rfl
theorem sm1 (v w : SV) : sameM (mOne v) (mOff w) = false := by kernel_rfl
theorem sm2 (b : Nat) (v : SV) : sameM (mfR .ro b bOne) (mOne v) = true := by kernel_rfl
def mTwo : Mf := ⟨1, 2, 0, 0, 0, 0, 0, .nilS, []⟩
theorem len2 : (bytesF mTwo).length = 32 := by kernel_rfl
theorem cell_sl {xs : List SV} {n : Nat} {f : Fl} : isCell (.sl xs n f) = true := rfl
theorem cell_slo {i o n : Nat} : isCell (.slo i o n) = true := rfl
theorem g26o (O : Orc) (st : List Ob) : swpF O sf26 [] st (fun r st' => r = .agg (mOne (.slo (st.length + 1) 0 2)).cells ∧ st' = st ++ [.cells (mOne (.slo (st.length + 1) 0 2)).cells, .cells ((mOne (.slo (st.length + 1) 0 2)).ps.flatMap Pc.cells)]) := by
  have sZ := st_aggA (st := st) (l := [.cells [.int .i64 0, .int .i64 0, .int .i64 0, .int .i64 0, .int .i64 0, .int .i64 0, .int .i64 0, .nilS], .cells ((mOne (.slo (st.length + 1) 0 2)).ps.flatMap Pc.cells)]) (i := 0) (n := 8) (b := true) (xs := (mOne (.slo (st.length + 1) 0 2)).cells) rfl rfl rfl rfl rfl
  simp only [mOne, Mf.cells, Pc.cells, isv, List.map_cons, List.map_nil, List.flatMap_cons, List.flatMap_nil, List.append_nil, List.cons_append, List.nil_append, Nat.add_zero, List.set_cons_zero] at sZ ⊢
  simp (maxSteps := 2000000) (disch := first | omega | simp only [List.length_append, List.length_cons, List.length_nil, List.length_map] <;> omega) only [sf26, cell_sl, cell_slo, sZ, nbI, cv_agg, cv_int, cv_str, cv_bool, cv_fn, cv_nilS, cv_nilF, cv_nilP, cv_ptr, cv_sl, cv_slo, cell_fn, eq_pair, eq_four, cell_str, cell_int, cell_bool, cell_nilS, getA0, getA, setA0, setA, ev_ldA, List.drop_succ_cons, List.drop_zero, List.take_succ_cons, List.take_zero, List.append_assoc, Nat.add_zero, List.set_cons_zero, List.set_cons_succ, lpK_n, lpK_e, lpK_r, lpK_g, Int.toNat_natCast, sk_bslO, ev_bslO, sk_storeO, ev_storeO_x, ev_storeO_nil, stepK_callp, app_own, sk_giveP, ev_giveP, pub_excl2, pub_own, sk_loadG, sk_ment, sk_mest, ev_ment, ev_mest, ev_loadG, sk_mkM, sk_lkp, sk_upd, ev_mkM, ev_mkM1, apM_some, ev_lkp, ev_lkpN, ev_upd, ev_lenMp, ev_lenMn, stepK_callv, callvK_fn, ev_idxP, sk_giveO, sk_cpy, sk_slcP, ro_slo, ro1_slo, ro2_slo, got_slo, flg_slo, exc_slo, ev_giveO_x, ev_giveO_nil, ev_giveO_slo, ev_giveO_ro, ev_lenO, ev_eqNs3, ev_idxO, apO_some, ev_b2O, ev_appO, slcO_hi, slcO_lo, slcO_both, slcP_all, ev_cpS, slcO_clone, flg_undef, flg_bool, flg_int, flg_str, flg_nilS, flg_nilP, flg_ptr, flg_agg, flg_tup, flg_nilF, flg_fn, flg_nilM, flg_mp, flg_elv, flg_ro, flg_full, flg_own, flg_excl, exc_undef, exc_bool, exc_int, exc_str, exc_nilS, exc_nilP, exc_ptr, exc_agg, exc_tup, exc_nilF, exc_fn, exc_nilM, exc_mp, exc_elv, exc_ro, exc_full, exc_own, exc_excl, sk_idxB, idxB_ro, idxB_full, idxB_own, idxB_excl, idxB_O, grd_s, swp_seq, swp_reg, swp_skip, swp_ret, swp_exit, swp_label, swp_goto, swp_block, swp_scope, swp_both, swp_cond, seqK_n, seqK_e, seqK_r, seqK_g, blkK_n, blkK_e, blkK_r, blkK_g, noG_n, noG_e, noG_r, scpK_n, scpK_e, scpK_r, scpK_g, condK_t, condK_f, evK_some, appK_eq, appC_eq, grd_t, srun_nil, srun_cons, stepK_call, stepK_grd, fin_ret, fin_n, fin_nil, fin_two, fin_three, swpF_eq, sk_mv, sk_take, sk_give, sk_pick, sk_bin, sk_eqB, sk_eqN, sk_eqA, sk_un, sk_cvI, sk_b2s, sk_s2b, sk_idS, sk_nilc, sk_fld, sk_fldV, sk_idxS, sk_idxV, sk_idxA, sk_idxP, sk_load, sk_store, sk_lenS, sk_lenL, sk_lenA, sk_lenM, sk_min, sk_max, sk_slcS, sk_slcL, sk_mkS, sk_bsl, sk_bld, sk_box, sk_alloc, sk_ext, sk_app, sk_mfn, get_mk, raw_slot, raw_lit, put_some, put_none, wb_nil, wb_cons, ev_mv, ev_take, ev_give, ev_pick, ev_eqB, ev_not, ev_cvI, ev_nilc, ev_fld, ev_lenS, ev_lenL, ev_lenN, ev_min, ev_max, ev_eqNs1, ev_eqNs2, ev_eqNp1, ev_eqNp2, ev_ext, bin_add, bin_sub, bin_mul, bin_and, bin_or, bin_xor, bin_eql, bin_neq, bin_lss, bin_leq, bin_gtr, bin_geq, bin_eqlS, bin_neqS, bin_lssS, unr_succ, unrK_n, unrK_e, unrK_r, unrK_g, ev_b2sN, bsl_nil, ev_bsl, ev_bld, ev_box, ev_alloc, ev_ldP, ldP_some, stP_some, setOb_setOb, setOb_len, ev_loadE, slcS_hi, slcS_lo, slcS_both, slcL_hi_ro, slcL_lo_ro, slcL_both_ro, idxA_ro, slcL_hi_full, slcL_lo_full, slcL_both_full, idxA_full, slcL_hi_own, slcL_lo_own, slcL_both_own, idxA_own, slcL_nil_hi, slcL_nil_both, app_excl_str, ro_undef, ro_int, ro_bool, ro_str, ro_nilS, ro_nilP, ro_nilF, ro_nilM, ro_ptr, ro_mp, ro_fn, ro_elv, ro_ro, ro_full, ro_own, ro_excl, ro_agg, ro_tup, ro1_int, ro1_str, ro1_bool, ro1_nilS, ro2_nilS, ro1_nilP, ro2_nilP, ro1_nilF, ro2_nilF, ro1_nilM, ro2_nilM, ro1_ptr, ro2_ptr, ro1_mp, ro2_mp, ro1_fn, ro2_fn, ro1_ro, ro2_ro, ro1_full, ro2_full, ro1_own, ro2_own, ro2_int, ro2_str, ro2_bool, got_excl, got_own, got_roo, got_full, got_int, got_bool, got_str, got_nilS, got_nilP, got_ptr, got_fn, got_mp, got_undef, got_agg, pub_excl, pubs, pubsFrom, List.map_cons, List.map_nil, List.getD_cons_zero, List.getD_cons_succ, List.getElem?_cons_zero, List.getElem?_cons_succ, List.length_cons, List.length_nil, List.replicate_succ, List.replicate_zero, List.cons_append, List.nil_append, Nat.reduceAdd, Nat.reduceSub, Nat.reduceMul, Nat.reduceLeDiff, Nat.reduceLT, Nat.reduceEqDiff, if_true, if_false, true_and, and_true, Bool.false_eq_true, Option.map_some, Option.bind_some, ↓reduceIte, List.all_cons, List.all_nil, Bool.and_true, Bool.and_self, List.zip_cons_cons, List.zip_nil_left, List.zip_nil_right, rep, fillV, wrCells, List.flatten_cons, List.flatten_nil, List.append_nil, decide_true, decide_false, Nat.zero_mul, Nat.mul_one, Nat.zero_add, reduceCtorEq, not_false_eq_true, forall_const, implies_true, Bool.not_true, Bool.not_false, beq_self_eq_true, bne_self_eq_false, Int.reduceBEq, Int.reduceBNe, st_bool, st_int, st_str, st_nilS, st_nilP, st_ptr, st_nilF, st_fn, st_nilM, st_mp, st_ro, st_full, setOb_same, ge_iff_le, gt_iff_lt, Int.cast_ofNat_Int, or_step, or_zero, Int.zero_mul, Int.reduceLE, Int.reduceLT, Int.reduceMul, Int.reduceSub, Int.reduceAdd, Int.reduceToNat, Int.reduceNeg, Int.reducePow, Nat.reducePow, IntKind.bits, wrap_i64, wrap_u8, bin_shr, bin_shl, Nat.min_def, ne_eq, Nat.one_ne_zero, List.length_append, Nat.le_refl, not_true_eq_false, app_excl, app_nil]
  exact ⟨_, _, retOf_cell (n := 8) (id := st.length) (l := [.int .i64 1, .int .i64 2, .int .i64 7, .int .i64 3, .int .i64 4, .int .i64 0, .int .i64 0, .slo (st.length + 1) 0 2]) rfl (by rw [getA0]; rfl) rfl rfl, .same, rfl, rfl⟩
theorem mOne_cells (v : SV) : (mOne v).cells = [.int .i64 1, .int .i64 2, .int .i64 7, .int .i64 3, .int .i64 4, .int .i64 0, .int .i64 0, v] := rfl
def oneP : List SV := (mOne .nilS).ps.flatMap Pc.cells
theorem mOne_ok {S : List Ob} {i : Nat} (h : S[i]? = some (.cells oneP)) : (mOne (.slo i 0 2)).ok S := by
  refine ⟨⟨rfl, .inr (.inr ⟨i, 0, oneP, rfl, h, Nat.le_refl _, rfl⟩)⟩, show 2 ≤ 268435456 by decide, ?_⟩
  intro p hp
  simp only [mOne, List.mem_cons, List.not_mem_nil, or_false] at hp
  rcases hp with rfl | rfl
  · exact ⟨RowI.mk (.inl rfl) rfl, show 2 ≤ 268435456 by decide, show 3 ≤ 268435456 by decide⟩
  · exact ⟨RowI.nil _, show 0 ≤ 268435456 by decide, show 1 ≤ 268435456 by decide⟩
theorem mOne_fit (v : SV) : (mOne v).fit := by exact ⟨show -9223372036854775808 ≤ (2 : Int) by decide, show (2 : Int) ≤ 9223372036854775807 by decide⟩
theorem mOne_fitB (v : SV) : fitB (mOne v) := by
  refine ⟨show 2 ≤ 1024 by decide, ?_⟩
  intro p hp
  simp only [mOne, List.mem_cons, List.not_mem_nil, or_false] at hp
  rcases hp with rfl | rfl
  · exact show 2 ≤ 32768 by decide
  · exact show 0 ≤ 32768 by decide
def K26o : List SV → List Ob → SV → List Ob → Prop := fun args st r st' => args = [] ∧ r = .agg (mOne (.slo (st.length + 1) 0 2)).cells ∧ st' = st ++ [.cells (mOne (.slo (st.length + 1) 0 2)).cells, .cells oneP]
def O214 : Orc := O213.add 26 K26o
theorem s214 : Sound Tryd.prog O214 := s213.add c26 (by kernel_rfl) (by
  rintro args st r st' ⟨rfl, rfl, rfl⟩
  exact ⟨by simp [sf26], g26o _ st⟩)
theorem rdT_ext (st : List Ob) (x : List UInt8) : ∃ X, rdT st x = st ++ X := by
  unfold rdT; split
  · exact ⟨_, rfl⟩
  · exact ⟨[], by simp⟩
theorem rdM_ok {st : List Ob} {x : List UInt8} (hx : x.length ≤ 268435456) (ho : okSt st) : (rdM st x).ok (rdT st x) ∧ okSt (rdT st x) ∧ (rdM st x).fit ∧ fitB (rdM st x) := by
  by_cases hb : okR (st.length + 3) x = true
  · unfold rdM rdT
    rw [if_pos hb, if_pos hb]
    have hs0 : rdOk (.sl (W.bsv x) x.length .ro) ⟨x, 0, 0⟩ := ⟨rdv_s x, by show x.length ≤ _; omega, Nat.zero_le _⟩
    obtain ⟨hs1, hl1, _⟩ := rdOk_nums (most := MX) 7 hs0
    obtain ⟨nn, hn1, hn2⟩ := numF_le (s := (hdS x).2) (most := 32) (by decide) hs1.2.2
    obtain ⟨hs2, hl2⟩ := rdOk_num hs1 32
    have hk : (rdP (st.length + 3) x).1.length = nn := by
      unfold rdP; rw [psF_len, show (rdN x).1 = (nn : Int) from hn1, Int.toNat_natCast]
    have hrow : ∀ p ∈ (rdP (st.length + 3) x).1, p.ok (st ++ (.cells (mfR .ro (st.length + 3) x).cells :: .cells (mfR (.own 7) (st.length + 3) x).cells :: .cells [.sl (W.bsv x) x.length .ro, .int .i64 (W.endF (rdP (st.length + 3) x).2).p, .int .i64 (W.endF (rdP (st.length + 3) x).2).e] :: pcObs (rdP (st.length + 3) x).1)) ∧ p.ch.length ≤ 10 ∧ p.path.length ≤ x.length := by
      have := psF_row (st := st) (A := .cells (mfR .ro (st.length + 3) x).cells) (B := .cells (mfR (.own 7) (st.length + 3) x).cells) (C := .cells [.sl (W.bsv x) x.length .ro, .int .i64 (W.endF (rdP (st.length + 3) x).2).p, .int .i64 (W.endF (rdP (st.length + 3) x).2).e]) (rdN x).1.toNat hs2 (by rw [hl2, hl1]; exact hx)
      rw [hl2, hl1] at this
      exact this
    have hids := fun p hp => RowI.idOk (hrow p hp).1.1
    refine ⟨⟨row_pvS _ _, by show (rdP (st.length + 3) x).1.length ≤ _; omega, fun p hp => (hrow p hp).1⟩, okSt_ps ho (fun p hp => (hrow p hp).1) ?_ ?_ ?_, ?_, ?_, ?_⟩
    · show idOks _ _ = true
      simp only [Mf.cells, idOks, idOk, Bool.true_and, Bool.and_true]
      exact idOk_pvS hids
    · show idOks _ _ = true
      simp only [Mf.cells, idOks, idOk, Bool.true_and, Bool.and_true]
      exact idOk_pvS hids
    · show idOks _ _ = true
      simp only [idOks, idOk, Bool.true_and, Bool.and_true]
      exact idOks_bsvW x
    · have := numsF_le 7 hs0 (mfR .ro (st.length + 3) x).ve (by
        show (hdS x).1.getD 1 0 ∈ (hdS x).1
        have h7 : (hdS x).1.length = 7 := (rdOk_nums (most := MX) 7 hs0).2.2
        rw [List.getD_eq_getElem?_getD, List.getElem?_eq_getElem (by omega)]
        exact List.getElem_mem _)
      unfold Mf.fit; exact ⟨by omega, by have := this.2; simp only [MX] at this; omega⟩
    · show (rdP (st.length + 3) x).1.length ≤ _; omega
    · intro p hp; have := (hrow p hp).2.1; omega
  · unfold rdM rdT
    rw [if_neg hb, if_neg hb]
    exact ⟨Mf.none_ok _, ho, by unfold Mf.fit Mf.none; exact ⟨by decide, by decide⟩, by decide, by simp [Mf.none]⟩
end Go.Sh.F
namespace Go.Sh.F
open Go.PathLaw Go.Proofs
theorem y18 {m : Mf} {st : List Ob} (h : m.ok st) (hf : m.fit) (ho : okSt st) : O214 18 [.agg m.cells] st (.bool (rightM m)) st := (by repeat first | exact Or.inr ⟨rfl, rfl, m, h, hf, ho, rfl, rfl⟩ | refine Or.inl ?_)
theorem y20 {m : Mf} {st : List Ob} (h : m.ok st) (hf : fitB m) (ho : okSt st) : O214 20 [.agg m.cells] st (.str (bytesF m)) st := (by repeat first | exact Or.inr ⟨rfl, rfl, m, h, hf, ho, rfl, rfl⟩ | refine Or.inl ?_)
theorem y21 {m : Mf} {st : List Ob} (h : m.ok st) (hf : fitB m) (ho : okSt st) : O214 21 [.agg m.cells] st (.str (bytesF m)) st := (by repeat first | exact Or.inr ⟨rfl, rfl, m, h, hf, ho, rfl, rfl⟩ | refine Or.inl ?_)
theorem y22 {x : List UInt8} {st : List Ob} (hx : x.length ≤ 268435456) (ho : okSt st) : O214 22 [.str x] st (.tup [.agg (rdM st x).cells, .int .i64 (rdC st x)]) (rdT st x) := .inl (.inr ⟨rfl, x, hx, ho, rfl, rfl, rfl⟩)
theorem y22f {x : List UInt8} {st : List Ob} (hx : x.length ≤ 268435456) (ho : okSt st) (hb : ∀ b, okR b x = false) : O214 22 [.str x] st (.tup [.agg Mf.none.cells, .int .i64 4]) st := by
  have := y22 hx ho
  have e1 : rdM st x = Mf.none := by unfold rdM; rw [hb]; rfl
  have e2 : rdC st x = 4 := by unfold rdC; rw [hb]; rfl
  have e3 : rdT st x = st := by unfold rdT; rw [hb]; rfl
  rwa [e1, e2, e3] at this
theorem y16 {m : Mf} {st : List Ob} (h : m.ok st) (hf : fitB m) (ho : okSt st) : O214 16 [.agg m.cells] st (chV (chF m.ps)) st := (by repeat first | exact Or.inr ⟨rfl, rfl, m, h, hf, ho, rfl, rfl⟩ | refine Or.inl ?_)
theorem y17 {m : Mf} {st : List Ob} (h : m.ok st) (hf : fitB m) (ho : okSt st) : O214 17 [.agg m.cells] st (chV (chF m.ps)) st := (by repeat first | exact Or.inr ⟨rfl, rfl, m, h, hf, ho, rfl, rfl⟩ | refine Or.inl ?_)
theorem y14 {a b : Mf} {st : List Ob} (ha : a.ok st) (hb : b.ok st) (ho : okSt st) : O214 14 [.agg a.cells, .agg b.cells] st (.bool (sameM a b)) st := (by repeat first | exact Or.inr ⟨rfl, rfl, a, b, ha, hb, ho, rfl, rfl⟩ | refine Or.inl ?_)
theorem y26 (st : List Ob) : O214 26 [] st (.agg (mOne (.slo (st.length + 1) 0 2)).cells) (st ++ [.cells (mOne (.slo (st.length + 1) 0 2)).cells, .cells oneP]) := .inr ⟨rfl, rfl, rfl, rfl⟩
theorem y12 {m : Mf} {st : List Ob} (h : m.ok st) (hc : ∀ p ∈ m.ps, p.ch.length ≤ 1048576) (ho : okSt st) : O214 12 [.agg m.cells] st (.agg (cpM st m).cells) (cpS st m) :=
  .inl (.inl (.inl (.inl (.inl (.inl (.inl (.inl (.inl (.inl (.inl (.inl (.inl (.inl (.inl (.inr ⟨rfl, m, h, hc, ho, rfl, rfl, rfl⟩)))))))))))))))
def Z8 : List SV := [.int .i64 0, .int .i64 0, .int .i64 0, .int .i64 0, .int .i64 0, .int .i64 0, .int .i64 0, .nilS]
theorem ro1_mf {st : List Ob} {m : Mf} (h : m.ok st) : m.cells.map ro1 = m.cells := by
  obtain ⟨q1, q2, q3, q4, q6, q7⟩ := h.1.facts
  simp only [Mf.cells, List.map_cons, List.map_nil, ro1_int, q6]
theorem cell_mf {st : List Ob} {m : Mf} (h : m.ok st) : m.cells.all isCell = true := by
  obtain ⟨q1, q2, q3, q4, q6, q7⟩ := h.1.facts
  simp only [Mf.cells, List.all_cons, List.all_nil, cell_int, q7, Bool.and_self]
theorem stM {st l : List Ob} {i : Nat} {c : List SV} {m : Mf} {S : List Ob} (hl : l[i]? = some (.cells c)) (hc : c.length = 8) (hm : m.ok S) : ev (st ++ l) (.store 8 true) [.ptr (st.length + i) 0, .agg m.cells] = some (.undef, [], st ++ l.set i (.cells m.cells)) :=
  st_aggA hl (ro1_mf hm) (cell_mf hm) rfl hc
def offP : List SV := oneP.set 2 (.int .i64 64)
theorem mOff_ok {S : List Ob} {i : Nat} (h : S[i]? = some (.cells offP)) : (mOff (.slo i 0 2)).ok S := by
  refine ⟨⟨rfl, .inr (.inr ⟨i, 0, offP, rfl, h, Nat.le_refl _, rfl⟩)⟩, show 2 ≤ 268435456 by decide, ?_⟩
  intro p hp
  simp only [mOff, List.mem_cons, List.not_mem_nil, or_false] at hp
  rcases hp with rfl | rfl
  · exact ⟨RowI.mk (.inl rfl) rfl, show 2 ≤ 268435456 by decide, show 3 ≤ 268435456 by decide⟩
  · exact ⟨RowI.nil _, show 0 ≤ 268435456 by decide, show 1 ≤ 268435456 by decide⟩
set_option maxHeartbeats 32000000 in
set_option maxRecDepth 50000 in
theorem g10s (st : List Ob) (ho : okSt st) : swpF O214 sf10 [] st (fun r st' => r = .bool true ∧ st' = st) := by
  have hv1 : (st ++ [Ob.cells (mOne (.slo (st.length + 1) 0 2)).cells, .cells oneP])[st.length + 1]? = some (.cells oneP) := by rw [getA]; rfl
  simp (maxSteps := 2000000) (disch := first | omega | simp only [List.length_append, List.length_cons, List.length_nil, List.length_map] <;> omega) only [sf10, List.set_cons_zero, flg_bool, swp_seq, swp_reg, seqK_n, evK_some, appK_eq, srun_nil, srun_cons, stepK_call, swpF_eq, sk_give, raw_lit, put_some, wb_nil, ev_give, ro_bool, pubs, pubsFrom, List.map_cons, List.map_nil, List.length_nil, List.replicate_succ, List.replicate_zero, List.nil_append, Nat.reduceSub, Bool.false_eq_true, ↓reduceIte]
  refine callK_intro (y26 _) ?_
  have ok1 : (mOne (.slo (st.length + 1) 0 2)).ok (st ++ [.cells (mOne (.slo (st.length + 1) 0 2)).cells, .cells oneP]) := mOne_ok hv1
  have sM1 := stM (st := st) (l := [.cells (mOne (.slo (st.length + 1) 0 2)).cells, .cells oneP, .cells Z8]) (i := 2) rfl rfl ok1
  simp only [Z8, List.set_cons_succ, List.set_cons_zero] at sM1
  have r1 := ro1_mf ok1
  have len8 : ∀ v, (mOne v).cells.length = 8 := fun _ => rfl
  have tk8 : ∀ v, (mOne v).cells.take 8 = (mOne v).cells := fun _ => rfl
  simp (maxSteps := 2000000) (disch := first | omega | simp only [List.length_append, List.length_cons, List.length_nil, List.length_map] <;> omega) only [sM1, r1, len8, tk8, getA, ev_ldA, List.drop_zero, List.append_assoc, List.set_cons_zero, List.set_cons_succ, apO_some, exc_agg, swp_seq, swp_reg, seqK_n, evK_some, appK_eq, appC_eq, srun_nil, srun_cons, stepK_call, sk_load, sk_store, sk_alloc, get_mk, raw_slot, put_some, put_none, wb_nil, ev_alloc, ro_agg, got_agg, pubs, pubsFrom, List.map_cons, List.map_nil, List.getD_cons_zero, List.getD_cons_succ, List.getElem?_cons_zero, List.getElem?_cons_succ, List.length_cons, List.length_nil, List.cons_append, List.nil_append, Nat.reduceAdd, Bool.false_eq_true, ↓reduceIte, Nat.zero_add, List.length_append, Nat.le_refl]
  have okT : okSt (st ++ [.cells (mOne (.slo (st.length + 1) 0 2)).cells, .cells oneP, .cells (mOne (.slo (st.length + 1) 0 2)).cells]) := by
    refine okSt_appL ho ?_
    simp only [List.length_cons, List.length_nil, List.all_cons, List.all_nil, Bool.and_true, obOk, mOne_cells, idOks, idOk, Bool.true_and, Bool.and_eq_true, decide_eq_true_eq]
    exact ⟨by omega, rfl, by omega⟩
  have okm : (mOne (.slo (st.length + 1) 0 2)).ok (st ++ [.cells (mOne (.slo (st.length + 1) 0 2)).cells, .cells oneP, .cells (mOne (.slo (st.length + 1) 0 2)).cells]) := mOne_ok (by rw [getA]; rfl)
  have gT : ∀ x, ((st ++ [.cells (mOne (.slo (st.length + 1) 0 2)).cells, .cells oneP, .cells (mOne (.slo (st.length + 1) 0 2)).cells]) ++ x)[st.length + 2]? = some (.cells (mOne (.slo (st.length + 1) 0 2)).cells) := fun x => by rw [List.append_assoc, getA]; rfl
  have eT : ∃ x, st ++ [.cells (mOne (.slo (st.length + 1) 0 2)).cells, .cells oneP, .cells (mOne (.slo (st.length + 1) 0 2)).cells] = st ++ x := ⟨_, rfl⟩
  generalize st ++ [.cells (mOne (.slo (st.length + 1) 0 2)).cells, .cells oneP, .cells (mOne (.slo (st.length + 1) 0 2)).cells] = T at okT okm gT eT ⊢
  have fB := mOne_fitB (.slo (st.length + 1) 0 2)
  have fF := mOne_fit (.slo (st.length + 1) 0 2)
  have hbO : bytesF (mOne (.slo (st.length + 1) 0 2)) = bOne := rfl
  have hch : chF (mOne (.slo (st.length + 1) 0 2)).ps = [8, 9] := ch1
  have hrt := rt1 (.slo (st.length + 1) 0 2)
  have hsm := fun b => sm2 b (.slo (st.length + 1) 0 2)
  have hso := fun w => sm1 (.slo (st.length + 1) 0 2) w
  have hcc : ∀ p ∈ (mOne (.slo (st.length + 1) 0 2)).ps, p.ch.length ≤ 1048576 := fun p hp => by have := fB.2 p hp; omega
  have hl8 : (mOne (.slo (st.length + 1) 0 2)).cells.length = 8 := rfl
  have ht8 : (mOne (.slo (st.length + 1) 0 2)).cells.take 8 = (mOne (.slo (st.length + 1) 0 2)).cells := rfl
  generalize mOne (.slo (st.length + 1) 0 2) = m1 at okm gT fB fF hbO hch hrt hsm hso hcc hl8 ht8 r1 ⊢
  generalize st.length + 2 = i1 at gT ⊢
  have hadd : ∀ s, ev s (.bin .add) [.str bOne, .str [0]] = some (.str (bOne ++ [0]), [], s) := fun s => rfl
  have hand : ∀ s, ev s (.bin .and) [.int .i64 (bOne.length : Int), .int .i64 63] = some (.int .i64 36, [], s) := fun s => by rw [len1]; rfl
  have hcut : ∀ s, ev s (.slcS false true) [.str bOne, .int .i64 36] = some (.str (bOne.take 36), [], s) := fun s => by rw [slcS_hi (by decide) (by rw [len1]; decide)]; rfl
  have k20 := y20 okm fB okT
  rw [hbO] at k20
  refine callK_intro k20 ?_
  simp (maxSteps := 2000000) (disch := first | omega | simp only [List.length_append, List.length_cons, List.length_nil, List.length_map] <;> omega) only [List.set_cons_zero, List.set_cons_succ, flg_str, exc_str, swp_seq, swp_reg, seqK_n, evK_some, appK_eq, appC_eq, srun_nil, srun_cons, stepK_call, sk_mv, sk_give, get_mk, raw_slot, put_some, wb_nil, ev_mv, ev_give, ro_str, got_str, pubs, pubsFrom, List.map_cons, List.map_nil, List.getD_cons_zero, List.getD_cons_succ, Bool.false_eq_true, ↓reduceIte]
  have hbl : bOne.length ≤ 268435456 := by rw [len1]; decide
  have k22 := y22 hbl okT
  obtain ⟨okm2, okT2, fit2, fB2⟩ := rdM_ok hbl okT
  have hs2 : sameM (rdM T bOne) m1 = true := by unfold rdM; rw [if_pos (Go.Sh.F.ok1 _)]; exact hsm _
  have hc2 : rdC T bOne = 0 := by unfold rdC; rw [if_pos (Go.Sh.F.ok1 _)]
  rw [hc2] at k22
  obtain ⟨X2, hX2⟩ := rdT_ext T bOne
  have okmB : m1.ok (rdT T bOne) := by rw [hX2]; exact okm.mono _
  have gT2 : ∀ x, (rdT T bOne ++ x)[i1]? = some (.cells m1.cells) := fun x => by rw [hX2, List.append_assoc]; exact gT _
  have eT2 : ∃ x, rdT T bOne = st ++ x := by obtain ⟨y, rfl⟩ := eT; exact ⟨y ++ X2, by rw [hX2, List.append_assoc]⟩
  generalize rdT T bOne = T2 at k22 okm2 okT2 okmB gT2 eT2
  generalize rdM T bOne = m2 at k22 okm2 fit2 fB2 hs2
  refine callK_intro k22 ?_
  have r2 := ro1_mf okm2
  have l2 : m2.cells.length = 8 := rfl
  have t2 : m2.cells.take 8 = m2.cells := rfl
  have sM2 := stM (st := T2) (l := [.cells [.int .i64 0, .int .i64 0, .int .i64 0, .int .i64 0, .int .i64 0, .int .i64 0, .int .i64 0, .nilS]]) (i := 0) rfl rfl okm2
  simp only [List.set_cons_zero, Nat.add_zero] at sM2
  simp (maxSteps := 2000000) (disch := first | omega | simp only [List.length_append, List.length_cons, List.length_nil, List.length_map] <;> omega) only [hadd, sM2, r2, List.set_cons_zero, List.set_cons_succ, flg_int, flg_agg, exc_str, swp_seq, swp_reg, seqK_n, evK_some, appK_eq, appC_eq, srun_nil, srun_cons, stepK_call, sk_mv, sk_give, sk_bin, sk_store, sk_alloc, sk_ext, get_mk, raw_slot, raw_lit, put_some, put_none, wb_nil, ev_mv, ev_give, ev_ext, ev_alloc, ro_int, ro_str, ro_agg, ro_tup, ro2_int, got_str, pubs, pubsFrom, List.map_cons, List.map_nil, List.getD_cons_zero, List.getD_cons_succ, List.getElem?_cons_zero, List.getElem?_cons_succ, Bool.false_eq_true, Option.map_some, ↓reduceIte]
  have okU : okSt (T2 ++ [.cells m2.cells]) := okM okm2 okT2
  refine callK_intro (y22f (by rw [List.length_append, len1]; decide) okU ok2) ?_
  have sN1 := stM (st := T2) (l := [.cells m2.cells, .cells [.int .i64 0, .int .i64 0, .int .i64 0, .int .i64 0, .int .i64 0, .int .i64 0, .int .i64 0, .nilS]]) (i := 1) rfl rfl (Mf.none_ok [])
  simp only [List.set_cons_zero, List.set_cons_succ] at sN1
  have rN := ro1_mf (Mf.none_ok [])
  simp (maxSteps := 2000000) (disch := first | omega | simp only [List.length_append, List.length_cons, List.length_nil, List.length_map] <;> omega) only [hand, hcut, sN1, rN, List.append_assoc, List.set_cons_zero, List.set_cons_succ, flg_int, flg_agg, exc_str, swp_seq, swp_reg, seqK_n, evK_some, appK_eq, appC_eq, srun_nil, srun_cons, stepK_call, sk_mv, sk_give, sk_bin, sk_store, sk_lenS, sk_slcS, sk_alloc, sk_ext, get_mk, raw_slot, raw_lit, put_some, put_none, wb_nil, ev_mv, ev_give, ev_lenS, ev_ext, ev_alloc, ro_int, ro_str, ro_agg, ro_tup, ro2_int, got_str, pubs, pubsFrom, List.map_cons, List.map_nil, List.getD_cons_zero, List.getD_cons_succ, List.getElem?_cons_zero, List.getElem?_cons_succ, List.length_cons, List.length_nil, List.cons_append, List.nil_append, Bool.false_eq_true, Option.map_some, ↓reduceIte, Nat.zero_add, List.length_append]
  have okU2 : okSt (T2 ++ [.cells m2.cells, .cells Mf.none.cells]) := by
    have := okM (Mf.none_ok _) okU
    simpa only [List.append_assoc, List.cons_append, List.nil_append] using this
  refine callK_intro (y22f (by rw [List.length_take, len1]; decide) okU2 ok3) ?_
  have sN2 := stM (st := T2) (l := [.cells m2.cells, .cells Mf.none.cells, .cells [.int .i64 0, .int .i64 0, .int .i64 0, .int .i64 0, .int .i64 0, .int .i64 0, .int .i64 0, .nilS]]) (i := 2) rfl rfl (Mf.none_ok [])
  simp only [List.set_cons_zero, List.set_cons_succ] at sN2
  simp (maxSteps := 2000000) (disch := first | omega | simp only [List.length_append, List.length_cons, List.length_nil, List.length_map] <;> omega) only [sN2, rN, gT2, r1, hl8, ht8, ev_ldA, List.drop_zero, List.append_assoc, List.set_cons_zero, List.set_cons_succ, apO_some, flg_int, flg_agg, exc_agg, swp_seq, swp_reg, seqK_n, evK_some, appK_eq, appC_eq, srun_nil, srun_cons, stepK_call, sk_mv, sk_give, sk_load, sk_store, sk_alloc, sk_ext, get_mk, raw_slot, put_some, put_none, wb_nil, ev_mv, ev_give, ev_ext, ev_alloc, ro_int, ro_agg, ro_tup, ro2_int, got_agg, pubs, pubsFrom, List.map_cons, List.map_nil, List.getD_cons_zero, List.getD_cons_succ, List.getElem?_cons_zero, List.getElem?_cons_succ, List.length_cons, List.length_nil, List.cons_append, List.nil_append, Nat.reduceAdd, Bool.false_eq_true, Option.map_some, ↓reduceIte, Nat.zero_add, List.length_append, Nat.le_refl]
  have okT3 : okSt (T2 ++ [.cells m2.cells, .cells Mf.none.cells, .cells Mf.none.cells]) := by
    have := okM (Mf.none_ok _) okU2
    simpa only [List.append_assoc, List.cons_append, List.nil_append] using this
  have okmC : m1.ok (T2 ++ [.cells m2.cells, .cells Mf.none.cells, .cells Mf.none.cells]) := okmB.mono _
  have okm2C : m2.ok (T2 ++ [.cells m2.cells, .cells Mf.none.cells, .cells Mf.none.cells]) := okm2.mono _
  have gT3 : ∀ x, ((T2 ++ [.cells m2.cells, .cells Mf.none.cells, .cells Mf.none.cells]) ++ x)[i1]? = some (.cells m1.cells) := fun x => by rw [List.append_assoc]; exact gT2 _
  have gM3 : ∀ x, ((T2 ++ [.cells m2.cells, .cells Mf.none.cells, .cells Mf.none.cells]) ++ x)[T2.length]? = some (.cells m2.cells) := fun x => by rw [List.append_assoc, getA0]; rfl
  have eT3 : ∃ x, T2 ++ [.cells m2.cells, .cells Mf.none.cells, .cells Mf.none.cells] = st ++ x := by obtain ⟨y, rfl⟩ := eT2; exact ⟨y ++ _, List.append_assoc ..⟩
  generalize T2 ++ [.cells m2.cells, .cells Mf.none.cells, .cells Mf.none.cells] = T3 at okT3 okmC okm2C gT3 gM3 eT3 ⊢
  generalize T2.length = i3 at gM3 ⊢
  have k12 := y12 okmC hcc okT3
  have okm4 := cpM_ok okmC
  have okT4 := cpS_okSt okmC okT3
  have pl4 := (sameM_iff _ _).2 (cpM_pl T3 m1)
  obtain ⟨X4, hX4⟩ := cpS_app T3 m1
  have okmD : m1.ok (cpS T3 m1) := by rw [hX4]; exact okmC.mono _
  have okm2D : m2.ok (cpS T3 m1) := by rw [hX4]; exact okm2C.mono _
  have gT4 : ∀ x, (cpS T3 m1 ++ x)[i1]? = some (.cells m1.cells) := fun x => by rw [hX4, List.append_assoc]; exact gT3 _
  have gM4 : ∀ x, (cpS T3 m1 ++ x)[i3]? = some (.cells m2.cells) := fun x => by rw [hX4, List.append_assoc]; exact gM3 _
  have eT4 : ∃ x, cpS T3 m1 = st ++ x := by obtain ⟨y, rfl⟩ := eT3; exact ⟨y ++ X4, by rw [hX4, List.append_assoc]⟩
  generalize cpS T3 m1 = T4 at k12 okm4 okT4 okmD okm2D gT4 gM4 eT4
  generalize cpM T3 m1 = m4 at k12 okm4 pl4
  refine callK_intro k12 ?_
  have r4 := ro1_mf okm4
  have l4 : m4.cells.length = 8 := rfl
  have t4 : m4.cells.take 8 = m4.cells := rfl
  have sM4 := stM (st := T4) (l := [.cells [.int .i64 0, .int .i64 0, .int .i64 0, .int .i64 0, .int .i64 0, .int .i64 0, .int .i64 0, .nilS]]) (i := 0) rfl rfl okm4
  simp only [List.set_cons_zero, Nat.add_zero] at sM4
  simp (maxSteps := 2000000) (disch := first | omega | simp only [List.length_append, List.length_cons, List.length_nil, List.length_map] <;> omega) only [sM4, gT4, r1, hl8, ht8, ev_ldA, List.drop_zero, List.set_cons_zero, List.set_cons_succ, apO_some, exc_agg, swp_seq, swp_reg, seqK_n, evK_some, appK_eq, appC_eq, srun_nil, srun_cons, stepK_call, sk_load, sk_store, sk_alloc, get_mk, raw_slot, put_some, put_none, wb_nil, ev_alloc, ro_agg, got_agg, pubs, pubsFrom, List.map_cons, List.map_nil, List.getD_cons_zero, List.getD_cons_succ, Bool.false_eq_true, ↓reduceIte, Nat.zero_add, Nat.le_refl]
  have okV : okSt (T4 ++ [.cells m4.cells]) := okM okm4 okT4
  have k16 := y16 (okmD.mono [.cells m4.cells]) fB okV
  rw [hch] at k16
  refine callK_intro k16 ?_
  simp (maxSteps := 2000000) (disch := first | omega | simp only [List.length_append, List.length_cons, List.length_nil, List.length_map] <;> omega) only [chV_not (l := [8, 9]) (by simp), List.set_cons_zero, List.set_cons_succ, flg_excl, swp_seq, swp_reg, seqK_n, evK_some, appK_eq, appC_eq, srun_nil, srun_cons, stepK_call, sk_give, get_mk, raw_slot, put_some, wb_nil, wb_cons, ev_give, ro_excl, pubs, pubsFrom, List.map_cons, List.map_nil, List.getD_cons_zero, List.getD_cons_succ, List.getElem?_cons_zero, List.length_cons, List.length_nil, Nat.reduceAdd, ↓reduceIte, Nat.zero_add]
  have k26 := y26 (T4 ++ [.cells m4.cells])
  have e26 : (T4 ++ [Ob.cells m4.cells]).length + 1 = T4.length + 2 := by simp
  rw [e26] at k26
  refine callK_intro k26 ?_
  have sM5 := stM (st := T4) (l := [.cells m4.cells, .cells (mOne (.slo (T4.length + 2) 0 2)).cells, .cells oneP, .cells [.int .i64 0, .int .i64 0, .int .i64 0, .int .i64 0, .int .i64 0, .int .i64 0, .int .i64 0, .nilS]]) (i := 3) rfl rfl (mOne_ok (S := T4 ++ [.cells m4.cells, .cells (mOne (.slo (T4.length + 2) 0 2)).cells, .cells oneP]) (i := T4.length + 2) (by rw [getA]; rfl))
  simp only [List.set_cons_zero, List.set_cons_succ] at sM5
  have h7 : (mOne (.slo (T4.length + 2) 0 2)).cells[7]? = some (.slo (T4.length + 2) 0 2) := rfl
  have sP : ev (T4 ++ [.cells m4.cells, .cells (mOne (.slo (T4.length + 2) 0 2)).cells, .cells oneP, .cells (mOne (.slo (T4.length + 2) 0 2)).cells]) (.store 1 false) [.ptr (T4.length + 2) 2, .int .i64 64] = some (.undef, [], T4 ++ [.cells m4.cells, .cells (mOne (.slo (T4.length + 2) 0 2)).cells, .cells offP, .cells (mOne (.slo (T4.length + 2) 0 2)).cells]) := by
    rw [st_int, getA]
    show stP (some (.cells oneP)) _ _ _ _ = _
    rw [stP_some, if_pos (by decide), setA]; rfl
  simp (maxSteps := 2000000) (disch := first | omega | simp only [List.length_append, List.length_cons, List.length_nil, List.length_map] <;> omega) only [sM5, h7, sP, getA, ev_ldA, List.drop_zero, List.append_assoc, Nat.add_zero, List.set_cons_zero, List.set_cons_succ, ro_slo, sk_idxB, idxB_O, swp_seq, swp_reg, seqK_n, evK_some, appK_eq, appC_eq, srun_nil, srun_cons, sk_fld, sk_load, sk_store, sk_alloc, get_mk, raw_slot, raw_lit, put_some, put_none, wb_nil, ev_fld, ev_alloc, ev_ldP, ldP_some, ro_agg, List.map_cons, List.map_nil, List.getD_cons_zero, List.getD_cons_succ, List.getElem?_cons_zero, List.getElem?_cons_succ, List.length_cons, List.length_nil, List.cons_append, List.nil_append, Nat.reduceAdd, Option.map_some, Nat.zero_mul, Nat.zero_add, Int.reduceToNat, List.length_append]
  have okT5 : okSt (T4 ++ [Ob.cells m4.cells, .cells (mOne (.slo (T4.length + 2) 0 2)).cells, .cells offP, .cells (mOne (.slo (T4.length + 2) 0 2)).cells]) := by
    have := okSt_appL (st := T4 ++ [Ob.cells m4.cells]) (x := [.cells (mOne (.slo (T4.length + 2) 0 2)).cells, .cells offP, .cells (mOne (.slo (T4.length + 2) 0 2)).cells]) okV (by
      simp only [List.length_append, List.length_cons, List.length_nil, List.all_cons, List.all_nil, Bool.and_true, obOk, mOne_cells, idOks, idOk, Bool.true_and, Bool.and_eq_true, decide_eq_true_eq]
      exact ⟨by omega, rfl, by omega⟩)
    simpa only [List.append_assoc, List.cons_append, List.nil_append] using this
  have ok1E := okmD.mono [Ob.cells m4.cells, .cells (mOne (.slo (T4.length + 2) 0 2)).cells, .cells offP, .cells (mOne (.slo (T4.length + 2) 0 2)).cells]
  have ok2E := okm2D.mono [Ob.cells m4.cells, .cells (mOne (.slo (T4.length + 2) 0 2)).cells, .cells offP, .cells (mOne (.slo (T4.length + 2) 0 2)).cells]
  have ok4E := okm4.mono [Ob.cells m4.cells, .cells (mOne (.slo (T4.length + 2) 0 2)).cells, .cells offP, .cells (mOne (.slo (T4.length + 2) 0 2)).cells]
  have ok5E : (mOff (.slo (T4.length + 2) 0 2)).ok (T4 ++ [Ob.cells m4.cells, .cells (mOne (.slo (T4.length + 2) 0 2)).cells, .cells offP, .cells (mOne (.slo (T4.length + 2) 0 2)).cells]) := mOff_ok (by rw [getA]; rfl)
  have gT5 := gT4 [Ob.cells m4.cells, .cells (mOne (.slo (T4.length + 2) 0 2)).cells, .cells offP, .cells (mOne (.slo (T4.length + 2) 0 2)).cells]
  have gM5 := gM4 [Ob.cells m4.cells, .cells (mOne (.slo (T4.length + 2) 0 2)).cells, .cells offP, .cells (mOne (.slo (T4.length + 2) 0 2)).cells]
  have gA5 : (T4 ++ [Ob.cells m4.cells, .cells (mOne (.slo (T4.length + 2) 0 2)).cells, .cells offP, .cells (mOne (.slo (T4.length + 2) 0 2)).cells])[T4.length]? = some (.cells m4.cells) := by rw [getA0]; rfl
  have gO5 : (T4 ++ [Ob.cells m4.cells, .cells (mOne (.slo (T4.length + 2) 0 2)).cells, .cells offP, .cells (mOne (.slo (T4.length + 2) 0 2)).cells])[T4.length + 3]? = some (.cells (mOff (.slo (T4.length + 2) 0 2)).cells) := by rw [getA]; rfl
  have eT5 : ∃ x, T4 ++ [Ob.cells m4.cells, .cells (mOne (.slo (T4.length + 2) 0 2)).cells, .cells offP, .cells (mOne (.slo (T4.length + 2) 0 2)).cells] = st ++ x := by obtain ⟨y, rfl⟩ := eT4; exact ⟨y ++ _, List.append_assoc ..⟩
  generalize T4 ++ [Ob.cells m4.cells, .cells (mOne (.slo (T4.length + 2) 0 2)).cells, .cells offP, .cells (mOne (.slo (T4.length + 2) 0 2)).cells] = T5 at okT5 ok1E ok2E ok4E ok5E gT5 gM5 gA5 gO5 eT5 ⊢
  have r5 := ro1_mf ok5E
  have l5 : (mOff (.slo (T4.length + 2) 0 2)).cells.length = 8 := rfl
  have t5 : (mOff (.slo (T4.length + 2) 0 2)).cells.take 8 = (mOff (.slo (T4.length + 2) 0 2)).cells := rfl
  have f5 : (mOff (.slo (T4.length + 2) 0 2)).fit := mOne_fit (.slo (T4.length + 2) 0 2)
  have pR5 := rt2 (.slo (T4.length + 2) 0 2)
  have pS5 := hso (.slo (T4.length + 2) 0 2)
  generalize mOff (.slo (T4.length + 2) 0 2) = m5 at r5 l5 t5 f5 pR5 pS5 ok5E gO5
  generalize T4.length + 3 = i5 at gO5 ⊢
  generalize T4.length = i4 at gA5 ⊢
  have k1 := y18 ok1E fF okT5
  have k2 := y18 ok5E f5 okT5
  have k3 : O214 18 [.agg [.int .i64 0, .int .i64 0, .int .i64 0, .int .i64 0, .int .i64 0, .int .i64 0, .int .i64 0, .nilS]] T5 (.bool false) T5 := y18 (m := Mf.none) (Mf.none_ok _) (by unfold Mf.fit Mf.none; exact ⟨by decide, by decide⟩) okT5
  have k4 := y14 ok2E ok1E okT5
  have k5 := y14 ok4E ok1E okT5
  have k6 := y14 ok1E ok5E okT5
  have k7 : O214 20 [.agg [.int .i64 1, .int .i64 2, .int .i64 0, .int .i64 0, .int .i64 0, .int .i64 0, .int .i64 0, .nilS]] T5 (.str (bytesF mTwo)) T5 := y20 (m := mTwo) ⟨RowAt.nil, by decide, by simp [mTwo]⟩ ⟨by decide, by simp [mTwo]⟩ okT5
  rw [hrt] at k1
  rw [pR5] at k2
  rw [hs2] at k4
  rw [pl4] at k5
  rw [pS5] at k6
  have hI : ∀ s, ev s (.idxB 1) [.sl (isv [8, 9]) 2 .ro, .int .i64 1] = some (.elv (isv [8, 9]) 1, [], s) := fun s => rfl
  have hL : ∀ s, ev s (.load 1 false) [.elv (isv [8, 9]) 1] = some (.int .i64 9, [], s) := fun s => rfl
  simp (maxSteps := 2000000) (disch := first | omega | simp only [List.length_append, List.length_cons, List.length_nil, List.length_map] <;> omega) only [gT5, r1, hl8, ht8, List.set_cons_zero, List.set_cons_succ, apO_some, exc_agg, evK_some, appK_eq, srun_cons, stepK_call, get_mk, raw_slot, put_some, wb_nil, got_agg, pubs, pubsFrom, List.map_cons, List.map_nil, List.getD_cons_zero, List.getD_cons_succ, Bool.false_eq_true, ↓reduceIte, Nat.le_refl]
  refine callK_intro k1 ?_
  simp (maxSteps := 2000000) (disch := first | omega | simp only [List.length_append, List.length_cons, List.length_nil, List.length_map] <;> omega) only [gT5, gM5, r1, r2, hl8, ht8, l2, t2, ev_ldA, List.drop_zero, List.set_cons_zero, List.set_cons_succ, apO_some, exc_int, exc_agg, evK_some, appK_eq, appC_eq, grd_t, srun_cons, stepK_call, stepK_grd, sk_mv, sk_take, sk_pick, sk_bin, sk_load, get_mk, raw_slot, raw_lit, put_some, wb_nil, ev_mv, ev_take, ev_pick, bin_eql, ro_bool, ro_agg, got_int, got_agg, pubs, pubsFrom, List.map_cons, List.map_nil, List.getD_cons_zero, List.getD_cons_succ, Bool.false_eq_true, ↓reduceIte, Nat.zero_add, beq_self_eq_true, Nat.le_refl]
  refine callK_intro k4 ?_
  simp (maxSteps := 2000000) (disch := first | omega | simp only [List.length_append, List.length_cons, List.length_nil, List.length_map] <;> omega) only [gT5, gA5, r1, r4, hl8, ht8, l4, t4, ev_ldA, List.drop_zero, List.set_cons_zero, List.set_cons_succ, apO_some, exc_int, exc_agg, evK_some, appK_eq, appC_eq, grd_t, srun_cons, stepK_call, stepK_grd, sk_mv, sk_take, sk_pick, sk_bin, sk_load, get_mk, raw_slot, raw_lit, put_some, wb_nil, ev_mv, ev_take, ev_pick, bin_eql, ro_bool, ro_agg, got_int, got_agg, pubs, pubsFrom, List.map_cons, List.map_nil, List.getD_cons_zero, List.getD_cons_succ, Bool.false_eq_true, ↓reduceIte, Nat.zero_add, beq_self_eq_true, Nat.le_refl]
  refine callK_intro k5 ?_
  simp (maxSteps := 2000000) (disch := first | omega | simp only [List.length_append, List.length_cons, List.length_nil, List.length_map] <;> omega) only [hI, hL, gO5, r5, l5, t5, ev_ldA, List.drop_zero, List.set_cons_zero, List.set_cons_succ, pub_excl2, apO_some, exc_agg, exc_own, exc_excl, sk_idxB, evK_some, appK_eq, appC_eq, grd_t, srun_cons, stepK_call, stepK_grd, sk_mv, sk_take, sk_pick, sk_bin, sk_load, sk_lenL, get_mk, raw_slot, raw_lit, put_some, wb_nil, wb_cons, ev_mv, ev_take, ev_pick, ev_lenL, bin_eql, ro_bool, ro_agg, got_excl, got_own, got_agg, pubs, pubsFrom, List.map_cons, List.map_nil, List.getD_cons_zero, List.getD_cons_succ, List.getElem?_cons_zero, Bool.false_eq_true, ↓reduceIte, Nat.zero_add, beq_self_eq_true, Int.cast_ofNat_Int, Nat.le_refl]
  refine callK_intro k2 ?_
  simp (maxSteps := 2000000) (disch := first | omega | simp only [List.length_append, List.length_cons, List.length_nil, List.length_map] <;> omega) only [List.set_cons_zero, List.set_cons_succ, exc_agg, evK_some, appK_eq, appC_eq, grd_t, srun_cons, stepK_call, stepK_grd, sk_mv, sk_pick, sk_un, sk_bld, get_mk, raw_slot, raw_lit, put_some, wb_nil, ev_mv, ev_pick, ev_not, ev_bld, ro_bool, ro1_int, ro1_nilS, got_agg, pubs, pubsFrom, List.map_cons, List.map_nil, List.getD_cons_zero, List.getD_cons_succ, List.length_nil, Bool.false_eq_true, Option.map_some, ↓reduceIte, List.zip_nil_right, fillV, Bool.not_false]
  refine callK_intro k3 ?_
  simp (maxSteps := 2000000) (disch := first | omega | simp only [List.length_append, List.length_cons, List.length_nil, List.length_map] <;> omega) only [gT5, gO5, r1, r5, hl8, ht8, l5, t5, ev_ldA, List.drop_zero, List.set_cons_zero, List.set_cons_succ, apO_some, exc_agg, evK_some, appK_eq, appC_eq, grd_t, srun_cons, stepK_call, stepK_grd, sk_mv, sk_pick, sk_un, sk_load, get_mk, raw_slot, raw_lit, put_some, wb_nil, ev_mv, ev_pick, ev_not, ro_bool, ro_agg, got_agg, pubs, pubsFrom, List.map_cons, List.map_nil, List.getD_cons_zero, List.getD_cons_succ, Bool.false_eq_true, ↓reduceIte, Nat.zero_add, Bool.not_false, Nat.le_refl]
  refine callK_intro k6 ?_
  simp (maxSteps := 2000000) (disch := first | omega | simp only [List.length_append, List.length_cons, List.length_nil, List.length_map] <;> omega) only [cv_int, cell_int, List.set_cons_zero, List.set_cons_succ, exc_int, exc_agg, evK_some, appK_eq, appC_eq, grd_t, srun_cons, stepK_call, stepK_grd, sk_mv, sk_pick, sk_un, sk_bld, get_mk, raw_slot, raw_lit, put_some, wb_nil, ev_mv, ev_pick, ev_not, ev_bld, ro_bool, ro1_int, ro1_nilS, got_int, got_agg, pubs, pubsFrom, List.map_cons, List.map_nil, List.getD_cons_zero, List.getD_cons_succ, List.length_cons, List.length_nil, Nat.reduceAdd, Nat.reduceLeDiff, and_true, Bool.false_eq_true, Option.map_some, ↓reduceIte, List.all_cons, List.all_nil, Bool.and_self, List.zip_cons_cons, List.zip_nil_right, fillV, wrCells, Nat.zero_add, Bool.not_false]
  refine callK_intro k7 ?_
  obtain ⟨y, rfl⟩ := eT5
  simp (maxSteps := 2000000) (disch := first | omega | simp only [List.length_append, List.length_cons, List.length_nil, List.length_map] <;> omega) only [len2, List.set_cons_zero, List.set_cons_succ, flg_bool, swp_ret, seqK_n, evK_some, appK_eq, appC_eq, grd_t, srun_nil, srun_cons, stepK_grd, fin_ret, sk_give, sk_pick, sk_bin, sk_lenS, get_mk, raw_slot, raw_lit, put_some, wb_nil, ev_give, ev_pick, ev_lenS, bin_eql, ro_bool, List.map_cons, List.map_nil, List.getD_cons_zero, List.getD_cons_succ, true_and, Bool.false_eq_true, ↓reduceIte, beq_self_eq_true, Int.cast_ofNat_Int]
  first | exact ⟨_, trim1 ho rfl⟩ | exact ⟨_, trim1 ho rfl, rfl⟩ | exact ⟨_, trim1 ho rfl, rfl, rfl⟩ | exact ⟨_, trim1 ho rfl, by simp, rfl⟩ | exact ⟨_, trim1 ho rfl, by simp⟩
def O215 : Orc := O214.add 10 (StC fun st args r => okSt st ∧ args = [] ∧ r = .bool true)
theorem s215 : Sound Tryd.prog O215 := s214.addS c10 (by kernel_rfl) (by
  rintro args r st ⟨ho, rfl, rfl⟩
  exact ⟨by simp [sf10], g10s st ho⟩)
end Go.Sh.F
namespace Go.Sh.F
open Go.PathLaw Go.Proofs
end Go.Sh.F
namespace Go.Sh.F
open Go.PathLaw Go.Proofs
def Wr (s t : W.RdS) (w : List UInt8) : Prop := t.p ≤ t.l.length ∧ t.l = s.l ∧ (t.e = 0 → s.e = 0 ∧ s.l.take t.p = s.l.take s.p ++ w)
theorem Wr.trans {s t u : W.RdS} {w x : List UInt8} (h : Wr s t w) (k : Wr t u x) : Wr s u (w ++ x) := by
  obtain ⟨h1, h2, h3⟩ := h
  obtain ⟨k1, k2, k3⟩ := k
  refine ⟨k1, k2.trans h2, fun he => ?_⟩
  obtain ⟨a, b⟩ := k3 he
  obtain ⟨c, d⟩ := h3 a
  refine ⟨c, ?_⟩
  rw [h2] at b
  rw [b, d, List.append_assoc]
end Go.Sh.F
namespace Go.Sh.F
open Go.PathLaw Go.Proofs
theorem z10 {st : List Ob} (ho : okSt st) : O215 10 [] st (.bool true) st := .inr ⟨rfl, rfl, ho, rfl, rfl⟩
theorem z11 {m : Mf} {st : List Ob} (h : m.ok st) (ho : okSt st) : O215 11 [.agg m.cells] st (.bool (fewM m)) st := (by repeat first | exact Or.inr ⟨rfl, rfl, m, h, ho, rfl, rfl⟩ | refine Or.inl ?_)
theorem z18 {m : Mf} {st : List Ob} (h : m.ok st) (hf : m.fit) (ho : okSt st) : O215 18 [.agg m.cells] st (.bool (rightM m)) st := .inl (y18 h hf ho)
theorem z20 {m : Mf} {st : List Ob} (h : m.ok st) (hf : fitB m) (ho : okSt st) : O215 20 [.agg m.cells] st (.str (bytesF m)) st := .inl (y20 h hf ho)
theorem z21 {m : Mf} {st : List Ob} (h : m.ok st) (hf : fitB m) (ho : okSt st) : O215 21 [.agg m.cells] st (.str (bytesF m)) st := .inl (y21 h hf ho)
theorem z16 {m : Mf} {st : List Ob} (h : m.ok st) (hf : fitB m) (ho : okSt st) : O215 16 [.agg m.cells] st (chV (chF m.ps)) st := .inl (y16 h hf ho)
theorem z17 {m : Mf} {st : List Ob} (h : m.ok st) (hf : fitB m) (ho : okSt st) : O215 17 [.agg m.cells] st (chV (chF m.ps)) st := .inl (y17 h hf ho)
theorem z14 {a b : Mf} {st : List Ob} (ha : a.ok st) (hb : b.ok st) (ho : okSt st) : O215 14 [.agg a.cells, .agg b.cells] st (.bool (sameM a b)) st := .inl (y14 ha hb ho)
theorem z12 {m : Mf} {st : List Ob} (h : m.ok st) (hc : ∀ p ∈ m.ps, p.ch.length ≤ 1048576) (ho : okSt st) : O215 12 [.agg m.cells] st (.agg (cpM st m).cells) (cpS st m) := .inl (y12 h hc ho)
theorem few_facts {m : Mf} (h : fewM m = true) : m.ps.length ≤ 60 ∧ ∀ p ∈ m.ps, p.path.length ≤ 200 ∧ p.ch.length ≤ 30 := by
  unfold fewM at h
  simp only [Bool.and_eq_true, decide_eq_true_eq, List.all_eq_true] at h
  exact h
theorem few_fitB {m : Mf} (h : fewM m = true) : fitB m := by
  obtain ⟨h1, h2⟩ := few_facts h
  exact ⟨by omega, fun p hp => by have := (h2 p hp).2; omega⟩
theorem few_chs {m : Mf} (h : fewM m = true) : ∀ p ∈ m.ps, p.ch.length ≤ 1048576 := fun p hp => by have := ((few_facts h).2 p hp).2; omega
end Go.Sh.F
namespace Go.Sh.F
open Go.PathLaw Go.Proofs
def SpoV (T W : List Ob) (j r : Nat) (v : SV) : Prop := ∃ (K d : Nat), K ≤ 1048576 ∧ ro v = v ∧ (∀ s : List Ob, ev s .lenL [v] = some (.int .i64 (K : Int), [], s)) ∧ (∀ (s : List Ob) (k : Nat), k < K → ev s (.idxB 1) [v, .int .i64 (k : Int)] = some (.ptr d k, [], s)) ∧ (0 < K → T.length ≤ d ∧ d ≠ j ∧ d ≠ r ∧ ∃ c, W[d]? = some (.cells c) ∧ K ≤ c.length)
def Spo (T W : List Ob) (j r n : Nat) (C : List SV) : Prop := okSt W ∧ (∃ Y, W = T ++ Y) ∧ T.length ≤ j ∧ W[j]? = some (.cells C) ∧ (0 < n → T.length ≤ r ∧ r ≠ j ∧ ∃ F, W[r]? = some (.cells F) ∧ n * 7 ≤ F.length ∧ ∀ i, i < n → ∃ v, F[i * 7 + 3]? = some v ∧ SpoV T W j r v)
theorem idOks_set {N : Nat} : ∀ {c : List SV} {p : Nat} {v : SV}, idOks N c = true → idOk N v = true → idOks N (c.set p v) = true
  | [], _, _, h, _ => h
  | x :: c, 0, v, h, hv => by
    simp only [idOks, Bool.and_eq_true, List.set_cons_zero] at h ⊢
    exact ⟨hv, h.2⟩
  | x :: c, p + 1, v, h, hv => by
    simp only [idOks, Bool.and_eq_true, List.set_cons_succ] at h ⊢
    exact ⟨h.1, idOks_set h.2 hv⟩
theorem okSt_cells {W : List Ob} {e : Nat} {c : List SV} (h : okSt W) (he : W[e]? = some (.cells c)) : idOks W.length c = true := by
  unfold okSt at h
  rw [List.all_eq_true] at h
  exact h _ (List.mem_of_getElem? he)
theorem okSt_set2 {s : List Ob} {k : Nat} {xs : List SV} (h : okSt s) (hx : idOks s.length xs = true) : okSt (s.set k (.cells xs)) := by
  unfold okSt at *
  rw [List.all_eq_true] at *
  intro o ho
  rw [List.length_set]
  rcases List.mem_or_eq_of_mem_set ho with ho | rfl
  · exact h o ho
  · exact hx
theorem set_obj {W : List Ob} {e d : Nat} {c c2 : List SV} {p : Nat} {v : SV} (he : W[e]? = some (.cells c)) (hd : W[d]? = some (.cells c2)) : ∃ c3, (W.set e (.cells (c.set p v)))[d]? = some (.cells c3) ∧ c3.length = c2.length := by
  by_cases h : d = e
  · subst h
    have e1 : c2 = c := by rw [hd] at he; simpa using he
    subst e1
    have hl : d < W.length := by
      obtain ⟨h, _⟩ := List.getElem?_eq_some_iff.1 hd
      exact h
    exact ⟨c2.set p v, by rw [List.getElem?_set_self hl], List.length_set⟩
  · exact ⟨c2, by rw [List.getElem?_set_ne (Ne.symm h)]; exact hd, rfl⟩
theorem spo_set {T W : List Ob} {j r n e p : Nat} {C c : List SV} {v : SV} (h : Spo T W j r n C) (he : W[e]? = some (.cells c)) (h1 : T.length ≤ e) (h2 : e ≠ j) (hv : idOk W.length v = true) (h3 : e = r → ∀ i, p ≠ i * 7 + 3) : Spo T (W.set e (.cells (c.set p v))) j r n C := by
  obtain ⟨a1, ⟨Y, a2⟩, a3, a4, a5⟩ := h
  refine ⟨okSt_set2 a1 (idOks_set (okSt_cells a1 he) hv), ⟨Y.set (e - T.length) (.cells (c.set p v)), ?_⟩, a3, ?_, ?_⟩
  · rw [a2, List.set_append_right _ _ h1]
  · rw [List.getElem?_set_ne h2]; exact a4
  · intro hn
    obtain ⟨b1, b2, F, b3, b4, b5⟩ := a5 hn
    have hV : ∀ w, SpoV T W j r w → SpoV T (W.set e (.cells (c.set p v))) j r w := by
      rintro w ⟨K, d, kb, k0, k1, k2, k3⟩
      refine ⟨K, d, kb, k0, k1, k2, fun hK => ?_⟩
      obtain ⟨m1, m2, m3, c4, m4, m5⟩ := k3 hK
      obtain ⟨c5, m6, m7⟩ := set_obj (p := p) (v := v) he m4
      exact ⟨m1, m2, m3, c5, m6, by omega⟩
    refine ⟨b1, b2, ?_⟩
    by_cases her : e = r
    · subst her
      rw [he] at b3
      cases b3
      have hl : e < W.length := by
        obtain ⟨h, _⟩ := List.getElem?_eq_some_iff.1 he
        exact h
      refine ⟨c.set p v, by rw [List.getElem?_set_self hl], by rw [List.length_set]; exact b4, fun i hi => ?_⟩
      obtain ⟨w, c1, c2⟩ := b5 i hi
      exact ⟨w, by rw [List.getElem?_set_ne (h3 rfl i)]; exact c1, hV w c2⟩
    · refine ⟨F, by rw [List.getElem?_set_ne her]; exact b3, b4, fun i hi => ?_⟩
      obtain ⟨w, c1, c2⟩ := b5 i hi
      exact ⟨w, c1, hV w c2⟩
theorem spoV_nil (T W : List Ob) (j r : Nat) : SpoV T W j r .nilS := ⟨0, 0, by omega, rfl, fun _ => rfl, fun _ _ h => absurd h (Nat.not_lt_zero _), fun h => absurd h (Nat.lt_irrefl _)⟩
theorem cpR_at : ∀ (l : List Pc) (base : List Ob) (i : Nat) (q : Pc), (∀ p ∈ l, p.ch.length ≤ 1048576) → (cpR base.length l).2[i]? = some q → q.cv = .nilS ∨ ∃ d c, c.length ≤ 1048576 ∧ q.cv = .slo d 0 c.length ∧ base.length < d ∧ (base ++ (cpR base.length l).1)[d]? = some (.cells c)
  | [], base, i, q, _, h => by simp [cpR] at h
  | p :: r, base, 0, q, hc, h => by
    simp only [cpR, List.getElem?_cons_zero, Option.some.injEq] at h
    subst h
    rcases nil_or p.cv with hn | hn
    · rw [cpPc_nil hn]; exact .inl hn
    · refine .inr ⟨base.length + 1, isv p.ch, by rw [isv_len]; exact hc p List.mem_cons_self, ?_, Nat.lt_succ_self _, ?_⟩
      · rw [cpPc_not hn, isv_len]
      · simp only [cpR]
        rw [cpX_not hn, getA]; rfl
  | p :: r, base, i + 1, q, hc, h => by
    have ih := cpR_at r (base ++ cpX p) i q (fun z hz => hc z (List.mem_cons_of_mem _ hz))
    rw [List.length_append] at ih
    simp only [cpR, List.getElem?_cons_succ] at h ⊢
    rw [← List.append_assoc]
    rcases ih h with hh | ⟨d, c, e0, e1, e2, e3⟩
    · exact .inl hh
    · exact .inr ⟨d, c, e0, e1, by omega, e3⟩
theorem spo_new {T : List Ob} {m : Mf} (h : m.ok T) (hc : ∀ p ∈ m.ps, p.ch.length ≤ 1048576) (ho : okSt T) : ∃ (r n : Nat), n ≤ m.ps.length ∧ (∀ s : List Ob, ev s .lenL [(cpM T m).pv] = some (.int .i64 (n : Int), [], s)) ∧ (∀ (s : List Ob) (k : Nat), k < n → ev s (.idxB 7) [(cpM T m).pv, .int .i64 (k : Int)] = some (.ptr r (k * 7), [], s)) ∧ Spo T (cpS T m ++ [.cells (cpM T m).cells]) (cpS T m).length r n (cpM T m).cells := by
  have hM := cpM_ok h
  have okC := okM hM (cpS_okSt h ho)
  rcases nil_or m.pv with hn | hn
  · rw [cpM_nil hn, cpS_nil hn] at okC ⊢
    refine ⟨0, 0, Nat.zero_le _, fun _ => by rw [hn]; rfl, fun _ _ h => absurd h (Nat.not_lt_zero _), okC, ⟨_, rfl⟩, Nat.le_refl _, by simp, fun h => absurd h (Nat.lt_irrefl _)⟩
  · have hl := cpR_len m.ps (T.length + 3)
    have hlen : (cpS T m).length = T.length + 3 + (cpR (T.length + 3) m.ps).1.length := by
      rw [cpS_not hn, cpB_all]; simp only [List.length_append, List.length_cons, List.length_nil]; omega
    have hat := cpR_at m.ps (T ++ [Ob.cells (cpA T m).cells, Ob.cells (cpA T m).cells, Ob.cells ((cpR (T.length + 3) m.ps).2.flatMap Pc.cells)])
    have hb : (T ++ [Ob.cells (cpA T m).cells, Ob.cells (cpA T m).cells, Ob.cells ((cpR (T.length + 3) m.ps).2.flatMap Pc.cells)]).length = T.length + 3 := by simp
    rw [hb, List.append_assoc, ← cpB_all, ← cpS_not hn] at hat
    have hpv : (cpM T m).pv = .slo (T.length + 2) 0 m.ps.length := by rw [cpM_not hn]; rfl
    refine ⟨T.length + 2, m.ps.length, Nat.le_refl _, fun _ => by rw [hpv]; rfl, fun s k hk => ?_, okC, ?_, ?_, by simp, fun _ => ⟨by omega, by omega, (cpR (T.length + 3) m.ps).2.flatMap Pc.cells, ?_, ?_, ?_⟩⟩
    · rw [hpv, idxB_O (by omega) (by omega), Nat.zero_add, Int.toNat_natCast]
    · obtain ⟨x, hx⟩ := cpS_app T m
      exact ⟨x ++ [.cells (cpM T m).cells], by rw [hx, List.append_assoc]⟩
    · omega
    · rw [List.getElem?_append_left (by omega), cpS_not hn, cpB_all, getA]; rfl
    · rw [flat_len (pc_len _), hl]; exact Nat.le_refl _
    · intro i hi
      have hi2 : i < (cpR (T.length + 3) m.ps).2.length := by rw [hl]; exact hi
      have hq := List.getElem?_eq_getElem hi2
      refine ⟨_, by rw [flat_get (pc_len _) hq (by omega), pget3], ?_⟩
      rcases hat i _ hc hq with hh | ⟨d, c, e0, e1, e2, e3⟩
      · rw [hh]; exact spoV_nil _ _ _ _
      · rw [e1]
        have hd : d < (cpS T m).length := by
          obtain ⟨h, _⟩ := List.getElem?_eq_some_iff.1 e3
          exact h
        refine ⟨c.length, d, e0, rfl, fun _ => rfl, fun s k hk => ?_, fun _ => ⟨by omega, by omega, by omega, c, by rw [List.getElem?_append_left hd]; exact e3, Nat.le_refl _⟩⟩
        rw [idxB_O (by omega) (by omega), Nat.zero_add, Int.toNat_natCast, Nat.mul_one]
end Go.Sh.F
namespace Go.Sh.F
open Go.PathLaw Go.Proofs
theorem z13 {a b : Mf} {st : List Ob} (ha : a.ok st) (hb : b.ok st) (ho : okSt st) : O215 13 [.agg a.cells, .agg b.cells] st (.bool (sameM a b)) st := (by repeat first | exact Or.inr ⟨rfl, rfl, a, b, ha, hb, ho, rfl, rfl⟩ | refine Or.inl ?_)
theorem z15 {v w : SV} {l k : List Int} {st : List Ob} (hv : RowI st v l) (hw : RowI st w k) (hl : l.length ≤ 1099511627776) : O215 15 [v, w] st (.bool (decide (l = k))) st := (by repeat first | exact Or.inr ⟨rfl, rfl, v, l, w, k, hv, hw, hl, rfl, rfl⟩ | refine Or.inl ?_)
theorem z19 {m : Mf} {st : List Ob} (h : m.ok st) (hf : m.fit) (ho : okSt st) : O215 19 [.agg m.cells] st (.bool (rightM m)) st := (by repeat first | exact Or.inr ⟨rfl, rfl, m, h, hf, ho, rfl, rfl⟩ | refine Or.inl ?_)
theorem chV_or (l : List Int) : chV l = .nilS ∨ chV l = .sl (isv l) l.length (.excl 1) := by
  by_cases h : l = []
  · subst h; exact .inl rfl
  · exact .inr (chV_not h)
theorem fin_lt {n i : Nat} (h : i < n) : ((n : Int) - ((i + 1 : Nat) : Int)).toNat < ((n : Int) - (i : Int)).toNat := by omega
theorem row_ch (st : List Ob) (l : List Int) : RowI st (got (chV l)) l := by
  by_cases h : l = []
  · subst h; exact ⟨rfl, .inl ⟨rfl, rfl⟩⟩
  · rw [chV_not h, got_excl]; exact RowI.mk (.inl rfl) rfl
theorem few_ch {m : Mf} (h : fewM m = true) : (chF m.ps).length ≤ 1099511627776 := by
  obtain ⟨h1, h2⟩ := few_facts h
  have : ∀ l : List Pc, (∀ p ∈ l, p.path.length ≤ 200 ∧ p.ch.length ≤ 30) → (chF l).length ≤ l.length * 30 := by
    intro l
    induction l with
    | nil => intro _; simp [chF]
    | cons p l ih =>
      intro hl
      have a := ih (fun q hq => hl q (List.mem_cons_of_mem _ hq))
      obtain ⟨b, c⟩ := hl p List.mem_cons_self
      unfold chF at a ⊢
      rw [List.flatMap_cons, List.length_append, List.length_cons]
      omega
  have := this m.ps h2
  omega
set_option maxHeartbeats 32000000 in
set_option maxRecDepth 50000 in
theorem g3r (m o : Mf) (st : List Ob) (hm : m.ok st) (hf : m.fit) (h2 : o.ok st) (hf2 : o.fit) (ho : okSt st) : swpF O215 sf3 [.agg m.cells, .agg o.cells] st (fun r st' => r = .bool true ∧ st' = st) := by
  have okT : okSt (st ++ [.cells m.cells, .cells o.cells]) := by
    have := okM (h2.mono [.cells m.cells]) (okM hm ho)
    simpa only [List.append_assoc, List.cons_append, List.nil_append] using this
  have hmT := hm.mono [.cells m.cells, .cells o.cells]
  have hoT := h2.mono [.cells m.cells, .cells o.cells]
  have r1 := ro1_mf hm
  have c1 := cell_mf hm
  have l1 : m.cells.length = 8 := rfl
  have t1 : m.cells.take 8 = m.cells := rfl
  have r2 := ro1_mf h2
  have c2 := cell_mf h2
  have l2 : o.cells.length = 8 := rfl
  have t2 : o.cells.take 8 = o.cells := rfl
  simp (maxSteps := 2000000) (disch := first | omega | simp only [List.length_append, List.length_cons, List.length_nil, List.length_map] <;> omega) only [sf3, r1, c1, r2, c2, cv_agg, List.append_assoc, List.set_cons_zero, List.set_cons_succ, flg_bool, exc_agg, swp_seq, swp_reg, seqK_n, evK_some, appK_eq, srun_nil, srun_cons, stepK_call, swpF_eq, sk_give, sk_box, get_mk, raw_slot, raw_lit, put_some, wb_nil, ev_give, ev_box, ro_bool, got_agg, pubs, pubsFrom, List.map_cons, List.map_nil, List.getD_cons_zero, List.getD_cons_succ, List.length_cons, List.length_nil, List.replicate_succ, List.replicate_zero, List.cons_append, List.nil_append, Nat.reduceAdd, Nat.reduceSub, Bool.false_eq_true, ↓reduceIte, Nat.zero_add, Int.reduceNeg, List.length_append]
  refine callK_intro (z10 okT) ?_
  simp (maxSteps := 2000000) (disch := first | omega | simp only [List.length_append, List.length_cons, List.length_nil, List.length_map] <;> omega) only [r1, l1, t1, getA0, ev_ldA, List.drop_zero, List.set_cons_zero, List.set_cons_succ, apO_some, flg_bool, exc_agg, swp_seq, swp_reg, seqK_n, evK_some, appK_eq, appC_eq, srun_nil, srun_cons, stepK_call, sk_give, sk_load, get_mk, raw_slot, put_some, wb_nil, ev_give, ro_bool, ro_agg, got_agg, pubs, pubsFrom, List.map_cons, List.map_nil, List.getD_cons_zero, List.getD_cons_succ, List.getElem?_cons_zero, Bool.false_eq_true, ↓reduceIte, Nat.zero_add, Int.reduceNeg, Nat.le_refl]
  refine callK_intro (z11 hmT okT) ?_
  simp (maxSteps := 2000000) (disch := first | omega | simp only [List.length_append, List.length_cons, List.length_nil, List.length_map] <;> omega) only [r2, l2, t2, getA, ev_ldA, List.drop_zero, List.set_cons_zero, List.set_cons_succ, apO_some, flg_bool, exc_agg, swp_seq, swp_reg, seqK_n, evK_some, appK_eq, appC_eq, srun_nil, srun_cons, stepK_call, sk_give, sk_load, get_mk, raw_slot, put_some, wb_nil, ev_give, ro_bool, ro_agg, got_agg, pubs, pubsFrom, List.map_cons, List.map_nil, List.getD_cons_zero, List.getD_cons_succ, List.getElem?_cons_zero, List.getElem?_cons_succ, Bool.false_eq_true, ↓reduceIte, Nat.zero_add, Int.reduceNeg, Nat.le_refl]
  refine callK_intro (z11 hoT okT) ?_
  cases hfew : fewM m with
  | false =>
    simp (maxSteps := 2000000) (disch := first | omega | simp only [List.length_append, List.length_cons, List.length_nil, List.length_map] <;> omega) only [List.set_cons_zero, List.set_cons_succ, flg_bool, swp_seq, swp_reg, swp_ret, swp_cond, seqK_n, seqK_r, condK_t, evK_some, appK_eq, appC_eq, grd_t, srun_nil, srun_cons, stepK_grd, fin_ret, sk_mv, sk_give, sk_pick, sk_un, get_mk, raw_slot, raw_lit, put_some, wb_nil, ev_mv, ev_give, ev_pick, ev_not, ro_bool, List.map_cons, List.map_nil, List.getD_cons_zero, List.getD_cons_succ, true_and, Bool.false_eq_true, ↓reduceIte, reduceCtorEq, Bool.not_false, Int.reduceNeg]
    first | exact ⟨_, trim1 ho rfl⟩ | exact ⟨_, trim1 ho rfl, rfl⟩ | exact ⟨_, trim1 ho rfl, rfl, rfl⟩ | exact ⟨_, trim1 ho rfl, by simp, rfl⟩ | exact ⟨_, trim1 ho rfl, by simp⟩
  | true =>
  cases hfew2 : fewM o with
  | false =>
    simp (maxSteps := 2000000) (disch := first | omega | simp only [List.length_append, List.length_cons, List.length_nil, List.length_map] <;> omega) only [List.set_cons_zero, List.set_cons_succ, flg_bool, exc_bool, swp_seq, swp_reg, swp_ret, swp_cond, seqK_n, seqK_r, condK_t, evK_some, appK_eq, appC_eq, grd_t, srun_nil, srun_cons, stepK_grd, fin_ret, sk_mv, sk_take, sk_give, sk_pick, sk_un, get_mk, raw_slot, raw_lit, put_some, wb_nil, ev_mv, ev_take, ev_give, ev_pick, ev_not, ro_bool, got_bool, List.map_cons, List.map_nil, List.getD_cons_zero, List.getD_cons_succ, true_and, Bool.false_eq_true, ↓reduceIte, Bool.not_true, Bool.not_false, Int.reduceNeg]
    first | exact ⟨_, trim1 ho rfl⟩ | exact ⟨_, trim1 ho rfl, rfl⟩ | exact ⟨_, trim1 ho rfl, rfl, rfl⟩ | exact ⟨_, trim1 ho rfl, by simp, rfl⟩ | exact ⟨_, trim1 ho rfl, by simp⟩
  | true =>
  have gM : ∀ z, ((st ++ [Ob.cells m.cells, Ob.cells o.cells]) ++ z)[st.length]? = some (.cells m.cells) := fun z => by rw [List.append_assoc, getA0]; rfl
  have gO : ∀ z, ((st ++ [Ob.cells m.cells, Ob.cells o.cells]) ++ z)[st.length + 1]? = some (.cells o.cells) := fun z => by rw [List.append_assoc, getA]; rfl
  simp (maxSteps := 2000000) (disch := first | omega | simp only [List.length_append, List.length_cons, List.length_nil, List.length_map] <;> omega) only [r1, l1, t1, getA0, ev_ldA, List.drop_zero, List.set_cons_zero, List.set_cons_succ, apO_some, flg_bool, exc_bool, exc_agg, swp_seq, swp_reg, swp_skip, swp_cond, seqK_n, condK_f, evK_some, appK_eq, appC_eq, grd_t, srun_nil, srun_cons, stepK_call, stepK_grd, sk_mv, sk_take, sk_give, sk_pick, sk_un, sk_load, get_mk, raw_slot, raw_lit, put_some, wb_nil, ev_mv, ev_take, ev_give, ev_pick, ev_not, ro_bool, ro_agg, got_bool, got_agg, pubs, pubsFrom, List.map_cons, List.map_nil, List.getD_cons_zero, List.getD_cons_succ, List.getElem?_cons_zero, Bool.false_eq_true, ↓reduceIte, Nat.zero_add, Bool.not_true, Int.reduceNeg, Nat.le_refl]
  refine callK_intro (z12 hmT (few_chs hfew) okT) ?_
  have gT : ∃ y, st ++ [Ob.cells m.cells, Ob.cells o.cells] = st ++ y := ⟨_, rfl⟩
  have hf60 := (few_facts hfew).1
  obtain ⟨r, n, hnb, hlen, hidx, hsp⟩ := spo_new hmT (few_chs hfew) okT
  have hM := cpM_ok hmT
  have hMpl := cpM_pl (st ++ [Ob.cells m.cells, Ob.cells o.cells]) m
  have sM2 := stM (st := cpS (st ++ [Ob.cells m.cells, Ob.cells o.cells]) m) (l := [.cells [.int .i64 0, .int .i64 0, .int .i64 0, .int .i64 0, .int .i64 0, .int .i64 0, .int .i64 0, .nilS]]) (i := 0) rfl rfl hM
  simp only [List.set_cons_zero, Nat.add_zero] at sM2
  have hM2 := hM.mono [.cells (cpM (st ++ [Ob.cells m.cells, Ob.cells o.cells]) m).cells]
  generalize cpM (st ++ [Ob.cells m.cells, Ob.cells o.cells]) m = m4 at *
  generalize cpS (st ++ [Ob.cells m.cells, Ob.cells o.cells]) m = T2 at *
  generalize st ++ [Ob.cells m.cells, Ob.cells o.cells] = T at *
  generalize st.length + 1 = i2 at *
  generalize st.length = i1 at *
  have r4 := ro1_mf hM
  have c4 := cell_mf hM
  have l4 : m4.cells.length = 8 := rfl
  have t4 : m4.cells.take 8 = m4.cells := rfl
  have p4 : m4.cells[7]? = some m4.pv := rfl
  have rp := hM.1.facts
  simp (maxSteps := 2000000) (disch := first | omega | simp only [List.length_append, List.length_cons, List.length_nil, List.length_map] <;> omega) only [sM2, getA0, ev_ldA, List.drop_zero, List.set_cons_zero, List.set_cons_succ, apO_some, swp_seq, swp_reg, seqK_n, evK_some, appK_eq, appC_eq, srun_nil, srun_cons, sk_load, sk_store, sk_alloc, get_mk, raw_slot, put_some, put_none, wb_nil, ev_alloc, ro_agg, List.map_cons, List.map_nil, List.getD_cons_zero, List.getD_cons_succ, List.getElem?_cons_zero, Nat.zero_add, Int.reduceNeg]
  generalize T2.length = j at *
  have hW := hsp.2.1
  generalize T2 ++ [Ob.cells m4.cells] = W at *
  obtain ⟨Y, eY⟩ := hW
  have hmW : m.ok W := by rw [eY]; exact hmT.mono Y
  have hoW : o.ok W := by rw [eY]; exact hoT.mono Y
  have gMW : W[i1]? = some (.cells m.cells) := by rw [eY]; exact gM Y
  have gOW : W[i2]? = some (.cells o.cells) := by rw [eY]; exact gO Y
  have gC := hsp.2.2.2.1
  have okW := hsp.1
  have ka := z13 hM2 hmW okW
  have e1 : sameM m4 m = true := (sameM_iff _ _).2 hMpl
  rw [e1] at ka
  have kb := z14 hmW hoW okW
  have kc := z13 hmW hoW okW
  have kd := z16 hmW (few_fitB hfew) okW
  have ke := z17 hmW (few_fitB hfew) okW
  have kf := z15 (row_ch W (chF m.ps)) (row_ch W (chF m.ps)) (few_ch hfew)
  rw [decide_eq_true rfl] at kf
  simp (maxSteps := 2000000) (disch := first | omega | simp only [List.length_append, List.length_cons, List.length_nil, List.length_map] <;> omega) only [gMW, r1, l1, t1, r4, l4, t4, ev_ldA, List.drop_zero, List.set_cons_zero, List.set_cons_succ, apO_some, exc_agg, evK_some, appK_eq, srun_cons, stepK_call, sk_load, get_mk, raw_slot, put_some, wb_nil, ro_agg, got_agg, pubs, pubsFrom, List.map_cons, List.map_nil, List.getD_cons_zero, List.getD_cons_succ, Bool.false_eq_true, ↓reduceIte, Nat.zero_add, Int.reduceNeg, Nat.le_refl]
  refine callK_intro ka ?_
  simp (maxSteps := 2000000) (disch := first | omega | simp only [List.length_append, List.length_cons, List.length_nil, List.length_map] <;> omega) only [gMW, gOW, r1, l1, t1, r2, l2, t2, ev_ldA, List.drop_zero, List.set_cons_zero, List.set_cons_succ, apO_some, seqK_n, evK_some, appK_eq, appC_eq, grd_t, srun_nil, srun_cons, stepK_grd, sk_mv, sk_load, get_mk, raw_slot, put_some, wb_nil, ev_mv, ro_bool, ro_agg, List.map_cons, List.map_nil, List.getD_cons_zero, List.getD_cons_succ, ↓reduceIte, Nat.zero_add, Int.reduceNeg, Nat.le_refl]
  refine swp_mono (Q := fun e s => e = .normal ∧ ∃ x y, s = ⟨[.agg m.cells, .agg o.cells, .ptr i1 0, .ptr i2 0, .bool false, .bool true, .bool true, .bool true, .ptr j 0, .bool true, .undef, .undef, .bool true, .agg m.cells, .bool true, .agg o.cells, .bool true, .bool true, .bool false, .bool false, .bool true, .bool false, .bool false, .undef, .agg m.cells, .agg m4.cells, .agg m4.cells, .agg m.cells, .bool true, .bool true, .agg m.cells, .agg o.cells, .bool (sameM m o), .agg m.cells, .agg o.cells, .bool (sameM m o), .bool true, .bool true, .bool true, .agg m.cells, x, .agg m.cells, y, .bool true, .bool true] ++ List.replicate 49 .undef, W⟩) ?_ ?_
  rotate_left
  · rcases chV_or (chF m.ps) with hv | hv <;> rw [hv] at kd ke kf <;> first | rw [got_nilS] at kf | rw [got_excl] at kf
    all_goals
      repeat' first
        | with_reducible exact swp_ttI
        | with_reducible refine swp_bothI ?_ ?_
        | with_reducible refine callK_intro kb ?_
        | with_reducible refine callK_intro kc ?_
        | with_reducible refine callK_intro kd ?_
        | with_reducible refine callK_intro ke ?_
        | with_reducible refine callK_intro kf ?_
        | exact ⟨rfl, _, _, rfl⟩
        | exact ⟨_, _, rfl⟩
        | simp (maxSteps := 2000000) (disch := first | omega | simp only [List.length_append, List.length_cons, List.length_nil, List.length_map] <;> omega) only [gMW, gOW, r1, l1, t1, r2, l2, t2, beq_self_eq_true, got_excl, got_nilS, pub_excl, exc_excl, exc_nilS, ev_ldA, List.drop_zero, List.set_cons_zero, List.set_cons_succ, apO_some, flg_bool, exc_agg, swp_seq, swp_reg, seqK_n, evK_some, appK_eq, appC_eq, grd_t, srun_nil, srun_cons, stepK_call, stepK_grd, sk_mv, sk_give, sk_pick, sk_eqB, sk_load, get_mk, raw_slot, raw_lit, put_some, wb_nil, wb_cons, ev_mv, ev_give, ev_pick, ev_eqB, ro_bool, ro_agg, got_agg, pubs, pubsFrom, List.map_cons, List.map_nil, List.getD_cons_zero, List.getD_cons_succ, List.getElem?_cons_zero, List.getElem?_cons_succ, List.replicate_succ, List.replicate_zero, List.cons_append, List.nil_append, true_and, Bool.false_eq_true, ↓reduceIte, Nat.zero_add, Nat.le_refl]
  rintro e s ⟨rfl, x, y, rfl⟩
  simp only [List.cons_append, List.nil_append, List.replicate_succ, List.replicate_zero]
  simp (maxSteps := 2000000) (disch := first | omega | simp only [List.length_append, List.length_cons, List.length_nil, List.length_map] <;> omega) only [List.set_cons_zero, List.set_cons_succ, exc_int, swp_seq, swp_reg, swp_block, seqK_n, evK_some, appK_eq, srun_nil, srun_cons, sk_take, raw_lit, put_some, wb_nil, ev_take, got_int, List.map_cons, List.map_nil, Bool.false_eq_true, ↓reduceIte, Int.reduceNeg]
  clear ka kb kc kd ke kf
  obtain ⟨q1, q2, q3, q4, q6, q7⟩ := rp
  refine swp_lp (fun S => ∃ (i : Nat) (W : List Ob), i ≤ n ∧ Spo T W j r n m4.cells ∧ S = ⟨[.undef, .undef, .ptr i1 0, .undef, .undef, .bool true, .undef, .undef, .ptr j 0, .bool true, .int .i64 i] ++ List.replicate 83 .undef, W⟩) (fun S => match S.get 10 with | .int _ k => ((n : Int) - k).toNat | _ => 0) ⟨[.undef, .undef, .ptr i1 0, .undef, .undef, .bool true, .undef, .undef, .ptr j 0, .bool true, .int .i64 0] ++ List.replicate 83 .undef, W⟩ ?_ ⟨0, W, Nat.zero_le _, hsp, rfl⟩ ?_
  · refine Forget.of ?_
    repeat first | exact fg_e | refine fg_d ?_ | refine fg_k rfl ?_
  clear hsp hM2 eY hmW hoW gMW gOW gC okW
  rintro S ⟨i, W, hi, hsp, rfl⟩
  obtain ⟨okW, ⟨Y, eY⟩, hjT, gC, hrow⟩ := _root_.id hsp
  by_cases hin : i = n
  · have hd : decide ((i : Int) < (n : Int)) = false := by rw [decide_eq_false_iff_not]; omega
    have hmW : m.ok W := by rw [eY]; exact hmT.mono Y
    have gMW : W[i1]? = some (.cells m.cells) := by rw [eY]; exact gM Y
    have ka := z18 hmW hf okW
    have kb := z19 hmW hf okW
    have kc := z20 hmW (few_fitB hfew) okW
    have kd := z21 hmW (few_fitB hfew) okW
    simp (maxSteps := 2000000) (disch := first | omega | simp only [List.length_append, List.length_cons, List.length_nil, List.length_map] <;> omega) only [hd, gC, p4, hlen, gMW, q1, r1, l1, t1, ev_ldA, List.drop_zero, List.set_cons_zero, List.set_cons_succ, lpK_e, apO_some, swp_seq, swp_reg, swp_exit, swp_cond, seqK_n, seqK_e, blkK_e, condK_f, evK_some, appK_eq, grd_t, srun_nil, srun_cons, stepK_grd, sk_mv, sk_pick, sk_bin, sk_fld, sk_load, sk_lenL, get_mk, raw_slot, raw_lit, put_some, wb_nil, ev_mv, ev_pick, ev_fld, bin_lss, ev_ldP, ldP_some, ro_int, ro_bool, ro_agg, List.map_cons, List.map_nil, List.getD_cons_zero, List.getD_cons_succ, List.replicate_succ, List.replicate_zero, List.cons_append, List.nil_append, Option.map_some, ↓reduceIte, Nat.zero_add, Int.reduceNeg, Nat.le_refl]
    apply swp_to
    · repeat' first
        | with_reducible exact swp_ttI
        | with_reducible refine swp_bothI ?_ ?_
        | with_reducible refine callK_intro ka ?_
        | with_reducible refine callK_intro kb ?_
        | with_reducible refine callK_intro kc ?_
        | with_reducible refine callK_intro kd ?_
        | with_reducible exact ⟨rfl, rfl⟩
        | simp (maxSteps := 2000000) (disch := first | omega | simp only [List.length_append, List.length_cons, List.length_nil, List.length_map] <;> omega) only [gMW, r1, l1, t1, beq_self_eq_true, ev_ldA, List.drop_zero, List.set_cons_zero, List.set_cons_succ, apO_some, flg_bool, exc_agg, swp_seq, swp_reg, seqK_n, evK_some, appK_eq, appC_eq, grd_t, srun_nil, srun_cons, stepK_call, stepK_grd, sk_mv, sk_give, sk_pick, sk_bin, sk_eqB, sk_load, get_mk, raw_slot, raw_lit, put_some, wb_nil, ev_mv, ev_give, ev_pick, ev_eqB, bin_eqlS, ro_bool, ro_agg, got_agg, pubs, pubsFrom, List.map_cons, List.map_nil, List.getD_cons_zero, List.getD_cons_succ, true_and, Bool.false_eq_true, ↓reduceIte, Nat.zero_add, Nat.le_refl]
        | exact rfl
    simp (maxSteps := 2000000) (disch := first | omega | simp only [List.length_append, List.length_cons, List.length_nil, List.length_map] <;> omega) only [swp_ret, seqK_n, fin_ret, get_mk, List.getD_cons_zero, List.getD_cons_succ, true_and]
    obtain ⟨y, ey⟩ := gT
    rw [eY, ey, List.append_assoc]
    first | exact ⟨_, trim1 ho rfl⟩ | exact ⟨_, trim1 ho rfl, rfl⟩ | exact ⟨_, trim1 ho rfl, rfl, rfl⟩ | exact ⟨_, trim1 ho rfl, by simp, rfl⟩ | exact ⟨_, trim1 ho rfl, by simp⟩
  have hd : decide ((i : Int) < (n : Int)) = true := by rw [decide_eq_true_eq]; omega
  have hil : i < n := by omega
  have fin : ((n : Int) - ((i + 1 : Nat) : Int)).toNat < ((n : Int) - (i : Int)).toNat := by omega
  obtain ⟨hrT, hrj, F, gF, hF, hcol⟩ := hrow (by omega)
  have hx : ∀ s, ev s (.idxB 7) [m4.pv, .int .i64 (i : Int)] = some (.ptr r (i * 7), [], s) := fun s => hidx s i hil
  have h0 : i * 7 < F.length := by omega
  have hsp2 := spo_set (p := i * 7) (v := .str [115, 112, 111, 105, 108, 116]) hsp gF hrT hrj rfl (fun _ i2 => by omega)
  simp (maxSteps := 2000000) (disch := first | omega | simp only [List.length_append, List.length_cons, List.length_nil, List.length_map] <;> omega) only [hd, gC, p4, hlen, hx, gF, h0, setOb, q1, Nat.add_zero, List.set_cons_zero, List.set_cons_succ, exc_int, sk_idxB, swp_seq, swp_reg, swp_skip, swp_block, swp_cond, seqK_n, condK_t, evK_some, appK_eq, srun_nil, srun_cons, sk_mv, sk_take, sk_bin, sk_fld, sk_load, sk_store, sk_lenL, get_mk, raw_slot, raw_lit, put_some, put_none, wb_nil, ev_mv, ev_take, ev_fld, bin_lss, ev_ldP, ldP_some, stP_some, ro_int, got_int, List.map_cons, List.map_nil, List.getD_cons_zero, List.getD_cons_succ, List.replicate_succ, List.replicate_zero, List.cons_append, List.nil_append, Bool.false_eq_true, Option.map_some, ↓reduceIte, Nat.zero_add, st_str, Int.reduceNeg]
  generalize W.set r (Ob.cells (F.set (i * 7) (.str [115, 112, 111, 105, 108, 116]))) = W2 at hsp2 ⊢
  clear hsp okW eY gC hrow gF hF hcol h0
  obtain ⟨okW2, _, _, gC2, hrow2⟩ := _root_.id hsp2
  obtain ⟨_, _, F, gF, hF, hcol⟩ := hrow2 (by omega)
  obtain ⟨v, gv, K, d0, hKb, rov, vlen, _⟩ := hcol i hil
  refine swp_lp (fun S => ∃ (k : Nat) (W : List Ob), k ≤ K ∧ Spo T W j r n m4.cells ∧ W[r]? = some (.cells F) ∧ S = ⟨[.undef, .undef, .ptr i1 0, .undef, .undef, .bool true, .undef, .undef, .ptr j 0, .bool true, .int .i64 i, .int .i64 k] ++ List.replicate 82 .undef, W⟩) (fun S => match S.get 11 with | .int _ k => ((K : Int) - k).toNat | _ => 0) ⟨[.undef, .undef, .ptr i1 0, .undef, .undef, .bool true, .undef, .undef, .ptr j 0, .bool true, .int .i64 i, .int .i64 0] ++ List.replicate 82 .undef, W2⟩ ?_ ⟨0, W2, Nat.zero_le _, hsp2, gF, rfl⟩ ?_
  · refine Forget.of ?_
    repeat first | exact fg_e | refine fg_d ?_ | refine fg_k rfl ?_
  clear hsp2 okW2 gC2 hrow2 gF hcol
  rintro S ⟨k, W3, hk, hsp, gF, rfl⟩
  obtain ⟨okW, _, _, gC, hrow⟩ := _root_.id hsp
  by_cases hkK : k = K
  · have hd2 : decide ((k : Int) < (K : Int)) = false := by rw [decide_eq_false_iff_not]; omega
    simp (maxSteps := 2000000) (disch := first | omega | simp only [List.length_append, List.length_cons, List.length_nil, List.length_map] <;> omega) only [hd2, gC, p4, hx, gF, gv, rov, vlen, q1, List.set_cons_zero, List.set_cons_succ, lpK_n, lpK_e, flg_int, sk_idxB, swp_seq, swp_reg, swp_exit, swp_cond, seqK_n, seqK_e, blkK_n, blkK_e, condK_f, evK_some, appK_eq, srun_nil, srun_cons, sk_mv, sk_give, sk_bin, sk_fld, sk_load, sk_lenL, get_mk, raw_slot, raw_lit, put_some, wb_nil, ev_mv, ev_give, ev_fld, bin_add, bin_lss, ev_ldP, ldP_some, ro_int, List.map_cons, List.map_nil, List.getD_cons_zero, List.getD_cons_succ, List.replicate_succ, List.replicate_zero, List.cons_append, List.nil_append, Bool.false_eq_true, Option.map_some, ↓reduceIte, Nat.zero_add, Int.reduceNeg, wrap_i64]
    refine ⟨_, ?_, ⟨i + 1, W3, by omega, hsp, rfl⟩, by exact fin⟩
    refine Forget.of ?_
    repeat first | exact fg_e | refine fg_d ?_ | refine fg_k rfl ?_
  · have hd2 : decide ((k : Int) < (K : Int)) = true := by rw [decide_eq_true_eq]; omega
    obtain ⟨_, hrj, F2, gF2, _, hcol⟩ := hrow (by omega)
    have eF : F2 = F := by rw [gF] at gF2; simpa using gF2.symm
    subst eF
    obtain ⟨v2, gv2, K2, d, _, _, vlen2, vidx, vobj⟩ := hcol i hil
    have ev2 : v2 = v := by rw [gv] at gv2; simpa using gv2.symm
    subst ev2
    have eK : K2 = K := by
      have := (vlen2 []).symm.trans (vlen [])
      simp only [Option.some.injEq, Prod.mk.injEq, SV.int.injEq, and_true, true_and] at this
      omega
    subst eK
    have hkl : k < K2 := Nat.lt_of_le_of_ne hk hkK
    obtain ⟨hdT, hdj, hdr, c, gc, hcl⟩ := vobj (Nat.lt_of_le_of_lt (Nat.zero_le _) hkl)
    have hk2 : k < c.length := Nat.lt_of_lt_of_le hkl hcl
    have hxk : ∀ s, ev s (.idxB 1) [v2, .int .i64 (k : Int)] = some (.ptr d k, [], s) := fun s => vidx s k hkl
    have hsp4 := spo_set (p := k) (v := .int .i64 (-7)) hsp gc hdT hdj rfl (fun h => absurd h hdr)
    have gF4 : (W3.set d (Ob.cells (c.set k (.int .i64 (-7)))))[r]? = some (.cells F2) := by rw [List.getElem?_set_ne hdr]; exact gF
    have fin2 : ((K2 : Int) - ((k + 1 : Nat) : Int)).toNat < ((K2 : Int) - (k : Int)).toNat := fin_lt hkl
    simp (maxSteps := 2000000) (disch := first | omega | simp only [List.length_append, List.length_cons, List.length_nil, List.length_map] <;> omega) only [hd2, gC, p4, hx, gF, gv, rov, vlen, hxk, gc, hk2, setOb, q1, List.set_cons_zero, List.set_cons_succ, lpK_n, flg_int, sk_idxB, swp_seq, swp_reg, swp_skip, swp_block, swp_cond, seqK_n, blkK_n, condK_t, evK_some, appK_eq, srun_nil, srun_cons, sk_mv, sk_give, sk_bin, sk_fld, sk_load, sk_store, sk_lenL, get_mk, raw_slot, raw_lit, put_some, put_none, wb_nil, ev_mv, ev_give, ev_fld, bin_add, bin_lss, ev_ldP, ldP_some, stP_some, ro_int, List.map_cons, List.map_nil, List.getD_cons_zero, List.getD_cons_succ, List.replicate_succ, List.replicate_zero, List.cons_append, List.nil_append, Bool.false_eq_true, Option.map_some, ↓reduceIte, Nat.zero_add, st_int, Int.reduceNeg, wrap_i64]
    refine ⟨_, ?_, ⟨k + 1, _, hkl, hsp4, gF4, rfl⟩, by exact fin2⟩
    refine Forget.of ?_
    repeat first | exact fg_e | refine fg_d ?_ | refine fg_k rfl ?_
end Go.Sh.F
