/-
  Records: what Read tells, in plain words, and pieces as a callee.
  Records: Read, in the shadow machine.
  Records: Read as a callee, and the small manifest.
  Records: the small manifest that all laws look at first, in the shadow machine.
  Records: what is written is read back, and what is read was written; in plain words.
  Records: what is read was written; in plain words.
  Records: RecordBack, in the shadow machine.
  Records: RecordApart and RecordCut, in the shadow machine.
  Records: what a copy is while it is spoilt.
  Records: RecordTells, in the shadow machine.
  Records: the document's Read, in the shadow machine.
  Records: the document's Read tells what Read tells; RecordReads, in the shadow machine.
  Sizes and buckets, in the shadow machine.
  Records: RecordSize, in the shadow machine.
-/
import Derived.Test.YtlknoahpliaigaaDoorRcM
import Derived.Test.YtlknoahpliaigaaDoorGrM
import Derived.Test.YtlknoahpliaigaaDoorT1
import Derived.Test.YtlknoahpliaigaaDoorShRd
import Derived.Test.YtlknoahpliaigaaDoorShS
import Derived.Test.YtlknoahpliaigaaDoorShTl
set_option linter.unusedSimpArgs false
set_option linter.unusedVariables false
namespace Go.Sh.F
open Go.PathLaw Go.Proofs
def O212 : Orc := O211.add 43 (KRun O211 sf43)
theorem s212 : Sound Tryd.prog O212 := s211.add c43 (by kernel_rfl) (by
  rintro args r st r' ⟨h, hr⟩
  exact ⟨h, hr⟩)
theorem stR3 {st : List Ob} {A B : Ob} {c0 : List SV} {v : SV} {s : W.RdS} : stR (st ++ [A, B, .cells c0]) (st.length + 2) v s = st ++ [A, B, .cells [v, .int .i64 s.p, .int .i64 s.e]] := by
  unfold stR; rw [setA]; rfl
theorem xPc {st : List Ob} {v : SV} {s : W.RdS} (hs : rdOk v s) (A B : Ob) (l : List Ob) :
    O212 43 [.ptr (st.length + 2) 0] (st ++ (A :: B :: .cells [v, .int .i64 s.p, .int .i64 s.e] :: l)) (.agg (pcF (st.length + 3 + (l.length + 2)) s).cells)
      (st ++ (A :: B :: .cells [v, .int .i64 (pC s).2.p, .int .i64 (pC s).2.e] :: (l ++ [.cells (pcF (st.length + 3 + (l.length + 2)) s).cells, .cells (pcF (st.length + 3 + (l.length + 2)) s).cells, .cells (isv (pC s).1)]))) := by
  have h := g43p (st ++ [A, B, .cells [v, .int .i64 s.p, .int .i64 s.e]]) (st.length + 2) v s l (by simp) hs
  rw [stR3, stR3] at h
  rw [show (st ++ [A, B, .cells [v, .int .i64 s.p, .int .i64 s.e]]).length = st.length + 3 by simp] at h
  simp only [List.append_assoc, List.cons_append, List.nil_append] at h
  exact .inr ⟨rfl, by simp [sf43], h⟩
theorem pC_err {s : W.RdS} (h : s.e ≠ 0) : (pC s).2 = s := by
  have hn : ∀ (m : Int) (k : Nat), (numsF m k s).2 = s := by
    intro m k
    induction k with
    | zero => rfl
    | succ k ih => rw [numsF_snoc]; simp only [ih]; rw [W.numF_err h]
  have h1 : (pT s).2 = s := by unfold pT; rw [W.textF_err h]
  have h2 : (pA s).2 = s := by unfold pA; rw [h1, W.numF_err h]
  have h3 : (pB s).2 = s := by unfold pB; rw [h2]; exact hn _ _
  have h4 : (pK s).2 = s := by unfold pK; rw [h3, W.numF_err h]
  unfold pC; rw [h4]; exact hn _ _
theorem rdOk_pC {v : SV} {s : W.RdS} (h : rdOk v s) : rdOk v (pC s).2 ∧ (pC s).2.l = s.l := by
  obtain ⟨a1, b1⟩ := rdOk_text h 52
  obtain ⟨a2, b2⟩ := rdOk_num a1 1
  obtain ⟨a3, b3, _⟩ := rdOk_nums (most := MX) 4 a2
  obtain ⟨a4, b4⟩ := rdOk_num a3 10
  obtain ⟨a5, b5, _⟩ := rdOk_nums (most := MX) (W.numF (numsF MX 4 (W.numF (W.textF s 52).2 1).2).2 10).1.toNat a4
  exact ⟨a5, by rw [show (pC s).2.l = (numsF MX (W.numF (numsF MX 4 (W.numF (W.textF s 52).2 1).2).2 10).1.toNat (W.numF (numsF MX 4 (W.numF (W.textF s 52).2 1).2).2 10).2).2.l from rfl, b5, b4, b3, b2, b1]⟩
def psF (b : Nat) : Nat → W.RdS → List Pc × W.RdS
  | 0, s => ([], s)
  | k + 1, s => ((psF b k s).1 ++ [pcF (b + (3 * k + 2)) (psF b k s).2], (pC (psF b k s).2).2)
theorem psF_len (b : Nat) : ∀ (k : Nat) (s : W.RdS), (psF b k s).1.length = k
  | 0, s => rfl
  | k + 1, s => by rw [psF, List.length_append, psF_len b k s]; rfl
theorem rdOk_ps {v : SV} (b : Nat) : ∀ (k : Nat) {s : W.RdS}, rdOk v s → rdOk v (psF b k s).2 ∧ (psF b k s).2.l = s.l
  | 0, s, h => ⟨h, rfl⟩
  | k + 1, s, h => by
    obtain ⟨h1, h2⟩ := rdOk_ps b k h
    obtain ⟨h3, h4⟩ := rdOk_pC h1
    exact ⟨h3, h4.trans h2⟩
theorem psF_err (b : Nat) (s : W.RdS) {i : Nat} (h : (psF b i s).2.e ≠ 0) : ∀ j, (psF b (i + j) s).2 = (psF b i s).2
  | 0 => rfl
  | j + 1 => by
    have := psF_err b s h j
    show (pC (psF b (i + j) s).2).2 = _
    rw [this, pC_err h]
def pcObs (l : List Pc) : List Ob := l.flatMap fun p => [.cells p.cells, .cells p.cells, .cells (isv p.ch)]
theorem pcObs_len (l : List Pc) : (pcObs l).length = 3 * l.length := by
  induction l with
  | nil => rfl
  | cons p l ih => rw [pcObs, List.flatMap_cons, List.length_append]; unfold pcObs at ih; rw [ih, List.length_cons]; simp only [List.length_cons, List.length_nil]; omega
theorem pcObs_snoc (l : List Pc) (p : Pc) : pcObs (l ++ [p]) = pcObs l ++ [.cells p.cells, .cells p.cells, .cells (isv p.ch)] := by
  unfold pcObs; rw [List.flatMap_append, List.flatMap_cons, List.flatMap_nil, List.append_nil]
def pvS (f : Fl) : List Pc → SV
  | [] => .nilS
  | p :: l => .sl ((p :: l).flatMap Pc.cells) (l.length + 1) f
theorem pvS_ne (f : Fl) {l : List Pc} (h : l ≠ []) : pvS f l = .sl (l.flatMap Pc.cells) l.length f := by
  cases l with
  | nil => exact absurd rfl h
  | cons => rfl
def hdS (x : List UInt8) : List Int × W.RdS := numsF MX 7 ⟨x, 0, 0⟩
def rdN (x : List UInt8) : Int × W.RdS := W.numF (hdS x).2 32
def rdP (b : Nat) (x : List UInt8) : List Pc × W.RdS := psF b (rdN x).1.toNat (rdN x).2
def mfR (f : Fl) (b : Nat) (x : List UInt8) : Mf := ⟨(hdS x).1.getD 0 0, (hdS x).1.getD 1 0, (hdS x).1.getD 2 0, (hdS x).1.getD 3 0, (hdS x).1.getD 4 0, (hdS x).1.getD 5 0, (hdS x).1.getD 6 0, pvS f (rdP b x).1, (rdP b x).1⟩
def okR (b : Nat) (x : List UInt8) : Bool := (W.endF (rdP b x).2).e == 0 && rightM (mfR .ro b x)
def rdM (st : List Ob) (x : List UInt8) : Mf := if okR (st.length + 3) x = true then mfR .ro (st.length + 3) x else Mf.none
def rdC (st : List Ob) (x : List UInt8) : Int := if okR (st.length + 3) x = true then 0 else 4
def rdT (st : List Ob) (x : List UInt8) : List Ob := if okR (st.length + 3) x = true then st ++ (.cells (mfR .ro (st.length + 3) x).cells :: .cells (mfR (.own 7) (st.length + 3) x).cells :: .cells [.sl (W.bsv x) x.length .ro, .int .i64 (W.endF (rdP (st.length + 3) x).2).p, .int .i64 (W.endF (rdP (st.length + 3) x).2).e] :: pcObs (rdP (st.length + 3) x).1) else st
theorem numsF_le {v : SV} : ∀ (k : Nat) {s : W.RdS}, rdOk v s → ∀ x ∈ (numsF MX k s).1, 0 ≤ x ∧ x ≤ MX
  | 0, s, h, x, hx => by simp [numsF] at hx
  | k + 1, s, h, x, hx => by
    obtain ⟨n, h1, h2⟩ := numF_le (s := s) (most := MX) (by decide) h.2.2
    rw [numsF, List.mem_cons] at hx
    rcases hx with rfl | hx
    · rw [h1]; exact ⟨by omega, h2⟩
    · exact numsF_le k (rdOk_num h MX).1 x hx
theorem psF_row {v : SV} {st : List Ob} {A B C : Ob} : ∀ (k : Nat) {s : W.RdS}, rdOk v s → s.l.length ≤ 268435456 → ∀ p ∈ (psF (st.length + 3) k s).1, p.ok (st ++ (A :: B :: C :: pcObs (psF (st.length + 3) k s).1)) ∧ p.ch.length ≤ 10 ∧ p.path.length ≤ s.l.length
  | 0, s, h, hl, p, hp => by simp [psF] at hp
  | k + 1, s, h, hl, p, hp => by
    obtain ⟨h1, h2⟩ := rdOk_ps (st.length + 3) k h
    have e : st ++ (A :: B :: C :: pcObs (psF (st.length + 3) (k + 1) s).1) = (st ++ (A :: B :: C :: pcObs (psF (st.length + 3) k s).1)) ++ [.cells (pcF (st.length + 3 + (3 * k + 2)) (psF (st.length + 3) k s).2).cells, .cells (pcF (st.length + 3 + (3 * k + 2)) (psF (st.length + 3) k s).2).cells, .cells (isv (pC (psF (st.length + 3) k s).2).1)] := by
      show st ++ (A :: B :: C :: pcObs ((psF (st.length + 3) k s).1 ++ _)) = _
      rw [pcObs_snoc]; simp [pcF]
    rw [e]
    rw [psF, List.mem_append] at hp
    rcases hp with hp | hp
    · obtain ⟨g1, g2, g3⟩ := psF_row (A := A) (B := B) (C := C) k h hl p hp
      exact ⟨g1.mono _, g2, g3⟩
    · obtain rfl := List.mem_singleton.1 hp
      have hlen := psF_len (st.length + 3) k s
      obtain ⟨psk, sk, ek⟩ : ∃ a b, psF (st.length + 3) k s = (a, b) := ⟨_, _, rfl⟩
      rw [ek] at h1 h2 hlen ⊢
      simp only at h1 h2 hlen ⊢
      obtain ⟨x, p1, e1, ht, hq1, hq2⟩ := W.textF_spec sk 52 h1.2.2
      obtain ⟨a1, b1⟩ := rdOk_text h1 52
      obtain ⟨a2, b2⟩ := rdOk_num a1 1
      obtain ⟨a3, b3, _⟩ := rdOk_nums (most := MX) 4 a2
      obtain ⟨kn, hk1, hk2⟩ := numF_le (s := (pB sk).2) (most := 10) (by decide) a3.2.2
      obtain ⟨a4, b4⟩ := rdOk_num a3 10
      have hcl : (pC sk).1.length = kn := by
        obtain ⟨_, _, h9⟩ := rdOk_nums (most := MX) (pK sk).1.toNat a4
        show (numsF MX (pK sk).1.toNat (pK sk).2).1.length = kn
        have e9 : (numsF MX (pK sk).1.toNat (pK sk).2).1.length = (pK sk).1.toNat := h9
        rw [e9, show (pK sk).1 = (kn : Int) from hk1, Int.toNat_natCast]
      have hkn : kn ≤ 10 := by omega
      have hpl : (W.textF sk 52).1.length ≤ s.l.length := by rw [ht, ← h2]; exact hq2
      refine ⟨⟨⟨by rw [isv_len, Nat.mul_one], .inr (.inr ⟨_, 0, isv (pC sk).1, rfl, ?_, by simp [isv_len, pcF], ?_⟩)⟩, ?_, ?_⟩, ?_, hpl⟩
      · have e5 : st.length + 3 + (3 * k + 2) = (st ++ (A :: B :: C :: pcObs psk)).length + 2 := by
          simp only [List.length_append, List.length_cons, pcObs_len, hlen]; omega
        rw [e5, getA]; rfl
      · show ((isv (pC sk).1).drop 0).take ((pC sk).1.length * 1) = isv (pC sk).1
        rw [List.drop_zero, Nat.mul_one, List.take_of_length_le (by rw [isv_len]; exact Nat.le_refl _)]
      · show (pC sk).1.length ≤ _; omega
      · show (W.textF sk 52).1.length ≤ _; omega
      · show (pC sk).1.length ≤ _; omega
end Go.Sh.F
namespace Go.Sh.F
open Go.PathLaw Go.Proofs
theorem rdv_s (x : List UInt8) : W.rdv (.sl (W.bsv x) x.length .ro) x := .inr rfl
theorem x40r {st : List Ob} {x : List UInt8} (hx : x.length ≤ 268435456) : O212 40 [.sl (W.bsv x) x.length .ro] st (.ptr st.length 0) (st ++ [.cells [.sl (W.bsv x) x.length .ro, .int .i64 0, .int .i64 0]]) :=
  (.inl (.inl (.inl (.inl (.inl (.inl (.inl (.inl (.inl (.inl (.inl (.inl ((.inr (by repeat first | exact Or.inr ⟨rfl, .sl (W.bsv x) x.length .ro, x, .inr ⟨.ro, .inl rfl, rfl⟩, by omega, rfl, rfl, rfl⟩ | refine Or.inl ?_)))))))))))))))
theorem x42r {st : List Ob} {rid : Nat} {v : SV} {s : W.RdS} (h : rdOk v s) (hg : st[rid]? = some (.cells [v, .int .i64 s.p, .int .i64 s.e])) (most : Int) :
    O212 42 [.ptr rid 0, .int .i64 most] st (.int .i64 (W.numF s most).1) (setOb st rid [v, .int .i64 (W.numF s most).2.p, .int .i64 (W.numF s most).2.e]) :=
  (.inl (.inl (.inl (.inl (.inl (.inl (.inl (.inl (.inl (.inl (.inl (.inl ((.inr (by repeat first | exact Or.inr ⟨rfl, s, v, rid, most, h.1, h.2.1, h.2.2, hg, rfl, rfl, rfl⟩ | refine Or.inl ?_)))))))))))))))
theorem x44r {st : List Ob} {rid : Nat} {v : SV} {p e : Int} (hg : st[rid]? = some (.cells [v, .int .i64 p, .int .i64 e])) :
    O212 44 [.ptr rid 0] st (.int .i64 e) st :=
  (.inl (.inl (.inl (.inl (.inl (.inl (.inl (.inl (.inl (.inl (.inl (.inl ((.inr (by repeat first | exact Or.inr ⟨rfl, v, rid, p, e, hg, rfl, rfl, rfl⟩ | refine Or.inl ?_)))))))))))))))
theorem x45r {st : List Ob} {rid : Nat} {v : SV} {s : W.RdS} (h : rdOk v s) (hg : st[rid]? = some (.cells [v, .int .i64 s.p, .int .i64 s.e])) :
    O212 45 [.ptr rid 0] st (.int .i64 (W.endF s).e) (setOb st rid [v, .int .i64 (W.endF s).p, .int .i64 (W.endF s).e]) :=
  (.inl (.inl (.inl (.inl (.inl (.inl (.inl (.inl (.inl (.inl (.inl (.inl ((.inr (by repeat first | exact Or.inr ⟨rfl, s, v, rid, h.1, hg, rfl, rfl, rfl⟩ | refine Or.inl ?_)))))))))))))))
theorem x41r {F : W.RdS → List SV → List Ob} {rid tid : Nat} {v : SV} (hF : TwoOb F rid tid v) (s : W.RdS) (c : List SV) (os : List Nat) (hs : rdOk v s) (ho : ∀ o ∈ os, o < c.length) (hn : os.length ≤ 16777216) :
    O212 41 [.ptr rid 0, .sl (ptrs tid os) os.length .ro] (F s c) (.tup []) (F (numsF MX os.length s).2 (setL c os (numsF MX os.length s).1)) :=
  .inl (.inr ⟨rfl, by simp [sf41], g41 hF s c os _ hs ho hn (.inl rfl)⟩)
theorem x18r {m : Mf} {st : List Ob} (h : m.ok st) (hf : m.fit) (ho : okSt st) : O212 18 [.agg m.cells] st (.bool (rightM m)) st :=
  (by repeat first | exact Or.inr ⟨rfl, rfl, m, h, hf, ho, rfl, rfl⟩ | refine Or.inl ?_)
def two3 (st : List Ob) (A : Ob) (v : SV) : W.RdS → List SV → List Ob := fun s c => st ++ (A :: .cells c :: [.cells [v, .int .i64 s.p, .int .i64 s.e]])
theorem two3_ok (st : List Ob) (A : Ob) (v : SV) : TwoOb (two3 st A v) (st.length + 2) (st.length + 1) v where
  g1 s c := by unfold two3; rw [getA]; rfl
  g2 s c := by unfold two3; rw [getA]; rfl
  s1 s c s' := by unfold two3; rw [setA]; rfl
  s2 s c c' := by unfold two3; rw [setA]; rfl
theorem ev_s2bW {st : List Ob} {x : List UInt8} (h : x.length ≤ 1073741824) : ev st .s2b [.str x] = some (.sl (W.bsv x) x.length (.excl 1), [], st) := by
  show (if x.length ≤ 1073741824 then some (SV.sl (x.map fun b => .int .u8 b.toNat) x.length (.excl 1), [], st) else none) = _
  rw [if_pos h]; rfl
theorem st_ownW {st : List Ob} {id o n es : Nat} {xs : List SV} : ev st (.store 1 true) [.ptr id o, .sl xs n (.own es)] = apO (st[id]?) fun l => if o < l.length then some (.undef, [(1, .sl xs n .ro)], setOb st id (l.set o (.sl xs n (.own es)))) else none := by
  show (match st[id]? with | some (.cells l) => (if flg (.sl xs n (.own es)) then (if 1 = 1 ∧ o < l.length then some (SV.undef, [(1, ro (pub (.sl xs n (.own es))))], setOb st id (l.set o (pub (.sl xs n (.own es))))) else none) else _) | _ => none) = _
  unfold apO
  cases st[id]? with
  | none => rfl
  | some ob =>
    cases ob with
    | map => rfl
    | cells l =>
      show (if 1 = 1 ∧ o < l.length then _ else none) = _
      simp only [true_and]; rfl
theorem st_exclW {st : List Ob} {id o n es : Nat} {xs : List SV} : ev st (.store 1 true) [.ptr id o, .sl xs n (.excl es)] = apO (st[id]?) fun l => if o < l.length then some (.undef, [(1, .sl xs n .ro)], setOb st id (l.set o (.sl xs n (.own es)))) else none := by
  show (match st[id]? with | some (.cells l) => (if flg (.sl xs n (.excl es)) then (if 1 = 1 ∧ o < l.length then some (SV.undef, [(1, ro (pub (.sl xs n (.excl es))))], setOb st id (l.set o (pub (.sl xs n (.excl es))))) else none) else _) | _ => none) = _
  unfold apO
  cases st[id]? with
  | none => rfl
  | some ob =>
    cases ob with
    | map => rfl
    | cells l =>
      show (if 1 = 1 ∧ o < l.length then _ else none) = _
      simp only [true_and]; rfl
theorem retOf_c2 {p n id t : Nat} {s : S} {l : List SV} {r : SV} (h : s.get p = .ptr id 0) (h1 : s.st[id]? = some (.cells l)) (hn : n = l.length) (hr : ro (.agg l) = r) : retOf [.cell p n true, .tmp t] s = some (.tup [r, s.get t]) := by
  have := retOf_cell h h1 hn hr
  show (List.mapM (retV s) [.cell p n true, .tmp t]).map SV.tup = _
  have e : retV s (.cell p n true) = some r := this
  rw [List.mapM_cons, List.mapM_cons, e]; rfl
theorem idOks_bsvW {k : Nat} : ∀ x : List UInt8, idOks k (W.bsv x) = true
  | [] => rfl
  | _ :: x => idOks_bsvW x
theorem ro1_pvS (f : Nat) (L : List Pc) : ro1 (pvS (.own f) L) = pvS .ro L := by cases L <;> rfl
theorem ro1_pvR (L : List Pc) : ro1 (pvS .ro L) = pvS .ro L := by cases L <;> rfl
theorem cell_pvS (f : Fl) (L : List Pc) : isCell (pvS f L) = true := by cases L <;> rfl
theorem row_pvS (st : List Ob) (L : List Pc) : RowAt st (pvS .ro L) 7 L.length (L.flatMap Pc.cells) := by
  cases L with
  | nil => exact RowAt.nil
  | cons p l => exact ⟨flat_len (pc_len _), .inr (.inl ⟨.ro, .inl rfl, rfl⟩)⟩
theorem idOks_pcs {k : Nat} : ∀ {L : List Pc}, (∀ p ∈ L, idOk k p.cv = true) → idOks k (L.flatMap Pc.cells) = true
  | [], _ => rfl
  | p :: L, h => by
    rw [List.flatMap_cons, idOks_app, idOks_pcs (fun q hq => h q (List.mem_cons_of_mem _ hq)), Bool.and_true]
    simp [Pc.cells, idOks, idOk, h p List.mem_cons_self]
theorem idOk_pvS {k : Nat} {f : Fl} {L : List Pc} (h : ∀ p ∈ L, idOk k p.cv = true) : idOk k (pvS f L) = true := by
  cases L with
  | nil => rfl
  | cons p l => exact idOks_pcs h
theorem okSt_ps {st : List Ob} {A B C : Ob} {L : List Pc} (ho : okSt st) (h : ∀ p ∈ L, p.ok (st ++ (A :: B :: C :: pcObs L)))
    (hA : obOk (st ++ (A :: B :: C :: pcObs L)).length A = true) (hB : obOk (st ++ (A :: B :: C :: pcObs L)).length B = true) (hC : obOk (st ++ (A :: B :: C :: pcObs L)).length C = true) : okSt (st ++ (A :: B :: C :: pcObs L)) := by
  refine okSt_appL ho ?_
  rw [← List.length_append, List.all_cons, List.all_cons, List.all_cons, hA, hB, hC]
  simp only [Bool.true_and]
  rw [List.all_eq_true]
  intro o hoo
  obtain ⟨p, hp, ho2⟩ := List.mem_flatMap.1 hoo
  have hi : idOks (st ++ (A :: B :: C :: pcObs L)).length p.cells = true := by
    have := RowI.idOk (h p hp).1
    simp only [Pc.cells, idOks, idOk, this, Bool.and_self]
  simp only [List.mem_cons, List.not_mem_nil, or_false] at ho2
  rcases ho2 with rfl | rfl | rfl
  · exact hi
  · exact hi
  · exact idOks_isv _ _
set_option maxHeartbeats 32000000 in
set_option maxRecDepth 20000 in
theorem g22r (x : List UInt8) (st : List Ob) (hx : x.length ≤ 268435456) (ho : okSt st) : swpF O212 sf22 [.str x] st (fun r st' => r = .tup [.agg (rdM st x).cells, .int .i64 (rdC st x)] ∧ st' = rdT st x) := by
  obtain ⟨v, hve⟩ : ∃ v, SV.sl (W.bsv x) x.length .ro = v := ⟨_, rfl⟩
  have hv : W.rdv v x := hve ▸ rdv_s x
  have k40 := fun st => x40r (st := st) hx
  rw [hve] at k40
  have hs0 : rdOk v ⟨x, 0, 0⟩ := ⟨hv, by show x.length ≤ _; omega, Nat.zero_le _⟩
  have k41 := x41r (two3_ok st (.cells [.int .i64 0, .int .i64 0, .int .i64 0, .int .i64 0, .int .i64 0, .int .i64 0, .int .i64 0, .nilS]) v) ⟨x, 0, 0⟩ [.int .i64 0, .int .i64 0, .int .i64 0, .int .i64 0, .int .i64 0, .int .i64 0, .int .i64 0, .nilS] [0, 1, 2, 3, 4, 5, 6] hs0 (by simp) (by simp)
  obtain ⟨hs1, hl1, _⟩ := rdOk_nums (most := MX) 7 hs0
  obtain ⟨h0, h1, h2, h3, h4, h5, h6, s1, eH⟩ : ∃ h0 h1 h2 h3 h4 h5 h6 s1, numsF MX 7 ⟨x, 0, 0⟩ = ([h0, h1, h2, h3, h4, h5, h6], s1) := ⟨_, _, _, _, _, _, _, _, rfl⟩
  rw [show ([0, 1, 2, 3, 4, 5, 6] : List Nat).length = 7 from rfl, eH] at k41
  rw [eH] at hs1 hl1
  simp only [two3, setL, List.set_cons_succ, List.set_cons_zero, ptrs, List.map_cons, List.map_nil] at k41
  simp only at hs1 hl1
  obtain ⟨nn, hn1, hn2⟩ := numF_le (s := s1) (most := 32) (by decide) hs1.2.2
  obtain ⟨hs2, hl2⟩ := rdOk_num hs1 32
  obtain ⟨nz, s2, eN⟩ : ∃ nz s2, W.numF s1 32 = (nz, s2) := ⟨_, _, rfl⟩
  have k42 := fun st rid hg => x42r (st := st) (rid := rid) hs1 hg 32
  rw [eN] at hs2 hl2 hn1 k42
  simp only at hs2 hl2 hn1 k42
  subst hn1
  have hrH : hdS x = ([h0, h1, h2, h3, h4, h5, h6], s1) := eH
  have hrN : rdN x = ((nn : Int), s2) := by unfold rdN; rw [hrH]; exact eN
  have hs2b := fun s => ev_s2bW (st := s) (x := x) (by omega)
  have hcl : ∀ a b c : Nat, SV.sl (W.bsv x) x.length .ro = v := fun _ _ _ => hve
  have sZ : ∀ Y : List Ob, ev (st ++ (.cells [.int .i64 0, .int .i64 0, .int .i64 0, .int .i64 0, .int .i64 0, .int .i64 0, .int .i64 0, .nilS] :: Y)) (.store 8 true) [.ptr st.length 0, .agg [.int .i64 0, .int .i64 0, .int .i64 0, .int .i64 0, .int .i64 0, .int .i64 0, .int .i64 0, .nilS]] = some (.undef, [], st ++ (.cells [.int .i64 0, .int .i64 0, .int .i64 0, .int .i64 0, .int .i64 0, .int .i64 0, .int .i64 0, .nilS] :: Y)) := by
    intro Y
    have := st_aggA (st := st) (l := .cells [.int .i64 0, .int .i64 0, .int .i64 0, .int .i64 0, .int .i64 0, .int .i64 0, .int .i64 0, .nilS] :: Y) (i := 0) (n := 8) (b := true) (xs := [.int .i64 0, .int .i64 0, .int .i64 0, .int .i64 0, .int .i64 0, .int .i64 0, .int .i64 0, .nilS]) rfl rfl rfl rfl rfl
    rwa [Nat.add_zero] at this
  simp (maxSteps := 2000000) (disch := first | omega | simp only [List.length_append, List.length_cons, List.length_nil, List.length_map] <;> omega) only [sf22, hs2b, List.append_assoc, List.set_cons_zero, List.set_cons_succ, pub_excl2, flg_int, exc_int, exc_excl, swp_seq, swp_reg, swp_scope, seqK_n, evK_some, appK_eq, srun_nil, srun_cons, stepK_call, swpF_eq, sk_mv, sk_take, sk_give, sk_s2b, sk_alloc, get_mk, raw_slot, raw_lit, put_some, wb_nil, ev_mv, ev_take, ev_give, ev_alloc, ro_int, ro_str, got_excl, got_int, pubs, pubsFrom, List.map_cons, List.map_nil, List.getD_cons_zero, List.getD_cons_succ, List.length_cons, List.length_nil, List.replicate_succ, List.replicate_zero, List.cons_append, List.nil_append, Nat.reduceSub, Bool.false_eq_true, ↓reduceIte, Nat.zero_add, List.length_append]
  rw [hve]
  refine callK_intro (k40 _) ?_
  simp (maxSteps := 2000000) (disch := first | omega | simp only [List.length_append, List.length_cons, List.length_nil, List.length_map] <;> omega) only [cell_p, cv_ptr, List.append_assoc, Nat.add_zero, List.set_cons_zero, List.set_cons_succ, pub_excl2, flg_ptr, exc_ptr, exc_excl, swp_seq, swp_reg, seqK_n, evK_some, appK_eq, appC_eq, srun_nil, srun_cons, stepK_call, sk_mv, sk_give, sk_fld, sk_bsl, get_mk, raw_slot, put_some, wb_nil, wb_cons, ev_mv, ev_give, ev_fld, ev_bsl, ro_ptr, got_excl, got_ptr, pubs, pubsFrom, List.map_cons, List.map_nil, List.getD_cons_zero, List.getD_cons_succ, List.getElem?_cons_zero, List.length_cons, List.length_nil, List.replicate_succ, List.replicate_zero, List.cons_append, List.nil_append, Nat.reduceAdd, Nat.reduceLeDiff, Nat.reduceLT, and_true, Bool.false_eq_true, Option.map_some, ↓reduceIte, List.all_cons, List.all_nil, Bool.and_self, List.zip_cons_cons, List.zip_nil_right, rep, fillV, wrCells, List.flatten_cons, List.flatten_nil, List.append_nil, decide_true, Nat.mul_one, Nat.zero_add, List.length_append, Nat.le_refl]
  refine callK_intro k41 ?_
  simp (maxSteps := 2000000) (disch := first | omega | simp only [List.length_append, List.length_cons, List.length_nil, List.length_map] <;> omega) only [List.set_cons_zero, List.set_cons_succ, exc_int, exc_ptr, swp_seq, swp_reg, seqK_n, evK_some, appK_eq, appC_eq, srun_nil, srun_cons, stepK_call, sk_mv, get_mk, raw_slot, raw_lit, put_some, wb_nil, wb_cons, ev_mv, ro_ptr, got_int, got_ptr, pubs, pubsFrom, List.map_cons, List.map_nil, List.getD_cons_zero, List.getD_cons_succ, List.getElem?_cons_zero, List.getElem?_cons_succ, Bool.false_eq_true, ↓reduceIte]
  refine callK_intro (k42 _ _ (by rw [getA]; rfl)) ?_
  simp (maxSteps := 2000000) (disch := first | omega | simp only [List.length_append, List.length_cons, List.length_nil, List.length_map] <;> omega) only [setA, List.set_cons_zero, List.set_cons_succ, flg_int, swp_seq, swp_reg, swp_block, seqK_n, evK_some, appK_eq, appC_eq, srun_nil, srun_cons, sk_mv, sk_give, get_mk, raw_slot, raw_lit, put_some, wb_nil, ev_mv, ev_give, ro_int, List.map_cons, List.map_nil, List.getD_cons_zero, List.getD_cons_succ, Bool.false_eq_true, ↓reduceIte]
  refine swp_lp (fun S => ∃ (i : Nat), i ≤ nn ∧ S = ⟨[.undef, .undef, .ptr st.length 0, .int .i64 0, .ptr (st.length + 1) 0, .undef, .ptr (st.length + 2) 0] ++ List.replicate 15 .undef ++ [.int .i64 nn, .int .i64 i] ++ List.replicate 22 .undef, st ++ (.cells [.int .i64 0, .int .i64 0, .int .i64 0, .int .i64 0, .int .i64 0, .int .i64 0, .int .i64 0, .nilS] :: .cells [.int .i64 h0, .int .i64 h1, .int .i64 h2, .int .i64 h3, .int .i64 h4, .int .i64 h5, .int .i64 h6, pvS (.own 7) (psF (st.length + 3) i s2).1] :: .cells [v, .int .i64 (psF (st.length + 3) i s2).2.p, .int .i64 (psF (st.length + 3) i s2).2.e] :: pcObs (psF (st.length + 3) i s2).1)⟩)
      (fun S => match S.get 23 with | .int _ k => ((nn : Int) - k).toNat | _ => 0)
      ⟨[.undef, .undef, .ptr st.length 0, .int .i64 0, .ptr (st.length + 1) 0, .undef, .ptr (st.length + 2) 0] ++ List.replicate 15 .undef ++ [.int .i64 nn, .int .i64 (0 : Nat)] ++ List.replicate 22 .undef, st ++ (.cells [.int .i64 0, .int .i64 0, .int .i64 0, .int .i64 0, .int .i64 0, .int .i64 0, .int .i64 0, .nilS] :: .cells [.int .i64 h0, .int .i64 h1, .int .i64 h2, .int .i64 h3, .int .i64 h4, .int .i64 h5, .int .i64 h6, pvS (.own 7) (psF (st.length + 3) 0 s2).1] :: .cells [v, .int .i64 (psF (st.length + 3) 0 s2).2.p, .int .i64 (psF (st.length + 3) 0 s2).2.e] :: pcObs (psF (st.length + 3) 0 s2).1)⟩ ?_ ⟨0, Nat.zero_le _, rfl⟩ ?_
  · refine Forget.of ?_
    repeat first | exact fg_e | refine fg_d ?_ | refine fg_k rfl ?_
  rintro S ⟨i, hi, rfl⟩
  obtain ⟨hsi, hli⟩ := rdOk_ps (st.length + 3) i hs2
  have hLl := psF_len (st.length + 3) i s2
  have hnext : psF (st.length + 3) (i + 1) s2 = ((psF (st.length + 3) i s2).1 ++ [pcF (st.length + 3 + (3 * i + 2)) (psF (st.length + 3) i s2).2], (pC (psF (st.length + 3) i s2).2).2) := rfl
  obtain ⟨L, si, eL⟩ : ∃ L si, psF (st.length + 3) i s2 = (L, si) := ⟨_, _, rfl⟩
  rw [eL] at hsi hli hLl hnext ⊢
  simp only at hsi hli hLl hnext ⊢
  by_cases him : i = nn
  · have hd : decide ((i : Int) < (nn : Int)) = false := by rw [decide_eq_false_iff_not]; omega
    subst him
    have hrP : rdP (st.length + 3) x = (L, si) := by unfold rdP; rw [hrN]; exact eL
    have hmf : ∀ f, mfR f (st.length + 3) x = ⟨h0, h1, h2, h3, h4, h5, h6, pvS f L, L⟩ := by intro f; unfold mfR; rw [hrH, hrP]; rfl
    have hrow := psF_row (st := st) (A := .cells [.int .i64 0, .int .i64 0, .int .i64 0, .int .i64 0, .int .i64 0, .int .i64 0, .int .i64 0, .nilS]) (B := .cells [.int .i64 h0, .int .i64 h1, .int .i64 h2, .int .i64 h3, .int .i64 h4, .int .i64 h5, .int .i64 h6, pvS (.own 7) L]) (C := .cells [v, .int .i64 (W.endF si).p, .int .i64 (W.endF si).e]) i hs2 (by rw [hl2, hl1]; omega)
    rw [eL] at hrow
    simp only at hrow
    simp (maxSteps := 2000000) (disch := first | omega | simp only [List.length_append, List.length_cons, List.length_nil, List.length_map] <;> omega) only [hd, List.set_cons_zero, List.set_cons_succ, lpK_e, exc_ptr, swp_seq, swp_reg, swp_exit, swp_cond, seqK_n, seqK_e, blkK_e, condK_f, evK_some, appK_eq, srun_nil, srun_cons, stepK_call, sk_mv, sk_bin, get_mk, raw_slot, put_some, wb_nil, ev_mv, bin_lss, ro_ptr, got_ptr, pubs, pubsFrom, List.map_cons, List.map_nil, List.getD_cons_zero, List.getD_cons_succ, List.length_cons, List.length_nil, List.replicate_succ, List.replicate_zero, List.cons_append, List.nil_append, Nat.reduceAdd, Bool.false_eq_true, ↓reduceIte, Nat.zero_add, List.length_append]
    refine callK_intro (x45r hsi (by rw [getA]; rfl)) ?_
    by_cases hE : (W.endF si).e = 0
    · have hne : ((W.endF si).e != 0) = false := by rw [hE]; rfl
      have hids : ∀ p ∈ L, idOk (st ++ (.cells [.int .i64 0, .int .i64 0, .int .i64 0, .int .i64 0, .int .i64 0, .int .i64 0, .int .i64 0, .nilS] :: .cells [.int .i64 h0, .int .i64 h1, .int .i64 h2, .int .i64 h3, .int .i64 h4, .int .i64 h5, .int .i64 h6, pvS (.own 7) L] :: .cells [v, .int .i64 (W.endF si).p, .int .i64 (W.endF si).e] :: pcObs L)).length p.cv = true := fun p hp => RowI.idOk (hrow p hp).1.1
      have hso : okSt (st ++ (.cells [.int .i64 0, .int .i64 0, .int .i64 0, .int .i64 0, .int .i64 0, .int .i64 0, .int .i64 0, .nilS] :: .cells [.int .i64 h0, .int .i64 h1, .int .i64 h2, .int .i64 h3, .int .i64 h4, .int .i64 h5, .int .i64 h6, pvS (.own 7) L] :: .cells [v, .int .i64 (W.endF si).p, .int .i64 (W.endF si).e] :: pcObs L)) := okSt_ps ho (fun p hp => (hrow p hp).1) (by rfl) (by
        show idOks _ _ = true
        simp only [idOks, idOk, Bool.true_and, Bool.and_true]
        exact idOk_pvS hids) (by
        show idOks _ _ = true
        rw [← hve]
        simp only [idOks, idOk, Bool.and_true]
        exact idOks_bsvW x)
      have hmo : (⟨h0, h1, h2, h3, h4, h5, h6, pvS .ro L, L⟩ : Mf).ok (st ++ (.cells [.int .i64 0, .int .i64 0, .int .i64 0, .int .i64 0, .int .i64 0, .int .i64 0, .int .i64 0, .nilS] :: .cells [.int .i64 h0, .int .i64 h1, .int .i64 h2, .int .i64 h3, .int .i64 h4, .int .i64 h5, .int .i64 h6, pvS (.own 7) L] :: .cells [v, .int .i64 (W.endF si).p, .int .i64 (W.endF si).e] :: pcObs L)) := ⟨row_pvS _ L, by show L.length ≤ _; omega, fun p hp => (hrow p hp).1⟩
      have hmfit : (⟨h0, h1, h2, h3, h4, h5, h6, pvS .ro L, L⟩ : Mf).fit := by
        have := numsF_le 7 hs0 h1 (by rw [eH]; simp)
        unfold Mf.fit; exact ⟨by show _ ≤ h1; omega, by show h1 ≤ _; have := this.2; simp only [MX] at this; omega⟩
      have k18 := x18r hmo hmfit hso
      simp only [Mf.cells] at k18
      have qP := ro1_pvS 7 L
      have qR := ro1_pvR L
      have qC := cell_pvS .ro L
      simp (maxSteps := 2000000) (disch := first | omega | simp only [List.length_append, List.length_cons, List.length_nil, List.length_map] <;> omega) only [hne, qP, qR, getA, setA, ev_ldA, List.drop_zero, List.take_succ_cons, List.take_zero, List.set_cons_zero, List.set_cons_succ, apO_some, exc_agg, evK_some, appK_eq, appC_eq, grd_t, srun_cons, stepK_call, stepK_grd, sk_mv, sk_bin, sk_load, get_mk, raw_slot, raw_lit, put_some, wb_nil, ev_mv, bin_neq, ro_bool, ro_agg, ro1_int, got_agg, pubs, pubsFrom, List.map_cons, List.map_nil, List.getD_cons_zero, List.getD_cons_succ, List.getElem?_cons_zero, List.getElem?_cons_succ, List.length_cons, List.length_nil, Nat.reduceAdd, Bool.false_eq_true, ↓reduceIte, Nat.zero_add, Nat.le_refl]
      refine callK_intro k18 ?_
      cases hR : rightM ⟨h0, h1, h2, h3, h4, h5, h6, pvS .ro L, L⟩ with
      | true =>
        have hb : okR (st.length + 3) x = true := by unfold okR; rw [hmf, hrP, hR]; simp [hE]
        have e1 : rdM st x = ⟨h0, h1, h2, h3, h4, h5, h6, pvS .ro L, L⟩ := by unfold rdM; rw [hb, hmf]; rfl
        have e2 : rdC st x = 0 := by unfold rdC; rw [hb]; rfl
        have e3 : rdT st x = st ++ (.cells [.int .i64 h0, .int .i64 h1, .int .i64 h2, .int .i64 h3, .int .i64 h4, .int .i64 h5, .int .i64 h6, pvS .ro L] :: .cells [.int .i64 h0, .int .i64 h1, .int .i64 h2, .int .i64 h3, .int .i64 h4, .int .i64 h5, .int .i64 h6, pvS (.own 7) L] :: .cells [v, .int .i64 (W.endF si).p, .int .i64 (W.endF si).e] :: pcObs L) := by
          unfold rdT; rw [hb, hmf, hmf, hrP, hve]; rfl
        have sM : ∀ Y : List Ob, ev (st ++ (.cells [.int .i64 0, .int .i64 0, .int .i64 0, .int .i64 0, .int .i64 0, .int .i64 0, .int .i64 0, .nilS] :: Y)) (.store 8 true) [.ptr st.length 0, .agg [.int .i64 h0, .int .i64 h1, .int .i64 h2, .int .i64 h3, .int .i64 h4, .int .i64 h5, .int .i64 h6, pvS .ro L]] = some (.undef, [], st ++ (.cells [.int .i64 h0, .int .i64 h1, .int .i64 h2, .int .i64 h3, .int .i64 h4, .int .i64 h5, .int .i64 h6, pvS .ro L] :: Y)) := by
          intro Y
          have := st_aggA (st := st) (l := .cells [.int .i64 0, .int .i64 0, .int .i64 0, .int .i64 0, .int .i64 0, .int .i64 0, .int .i64 0, .nilS] :: Y) (i := 0) (n := 8) (b := true) (xs := [.int .i64 h0, .int .i64 h1, .int .i64 h2, .int .i64 h3, .int .i64 h4, .int .i64 h5, .int .i64 h6, pvS .ro L]) rfl (by simp only [List.map_cons, List.map_nil, qR]; rfl) (by simp only [List.all_cons, List.all_nil, qC]; rfl) rfl rfl
          rwa [Nat.add_zero] at this
        simp only [e1, e2, e3, Mf.cells]
        simp (maxSteps := 2000000) (disch := first | omega | simp only [List.length_append, List.length_cons, List.length_nil, List.length_map] <;> omega) only [qP, sM, getA, ev_ldA, List.drop_zero, List.take_succ_cons, List.take_zero, List.set_cons_zero, List.set_cons_succ, apO_some, flg_int, swp_seq, swp_reg, swp_skip, swp_ret, swp_cond, seqK_n, seqK_r, scpK_r, condK_f, evK_some, appK_eq, appC_eq, grd_t, srun_nil, srun_cons, stepK_grd, sk_give, sk_pick, sk_un, sk_load, sk_store, get_mk, raw_slot, raw_lit, put_some, put_none, wb_nil, ev_give, ev_pick, ev_not, ro_int, ro_bool, ro_agg, ro1_int, List.map_cons, List.map_nil, List.getD_cons_zero, List.getD_cons_succ, List.getElem?_cons_zero, List.getElem?_cons_succ, List.length_cons, List.length_nil, Nat.reduceAdd, Bool.false_eq_true, ↓reduceIte, Nat.zero_add, Bool.not_true, Nat.le_refl]
        exact ⟨_, _, retOf_c2 (n := 8) (id := st.length) (t := 3) (l := [.int .i64 h0, .int .i64 h1, .int .i64 h2, .int .i64 h3, .int .i64 h4, .int .i64 h5, .int .i64 h6, pvS .ro L]) (r := .agg [.int .i64 h0, .int .i64 h1, .int .i64 h2, .int .i64 h3, .int .i64 h4, .int .i64 h5, .int .i64 h6, pvS .ro L]) rfl (by rw [getA0]; rfl) rfl (by show SV.agg (List.map ro1 _) = _; simp only [List.map_cons, List.map_nil, qR]; rfl), .same, rfl, rfl⟩
      | false =>
        have hb : okR (st.length + 3) x = false := by unfold okR; rw [hmf, hrP, hR, Bool.and_false]
        have e1 : rdM st x = Mf.none := by unfold rdM; rw [hb]; rfl
        have e2 : rdC st x = 4 := by unfold rdC; rw [hb]; rfl
        have e3 : rdT st x = st := by unfold rdT; rw [hb]; rfl
        simp only [e1, e2, e3]
        simp (maxSteps := 2000000) (disch := first | omega | simp only [List.length_append, List.length_cons, List.length_nil, List.length_map] <;> omega) only [sZ, List.set_cons_zero, List.set_cons_succ, flg_int, swp_seq, swp_reg, swp_skip, swp_ret, swp_goto, swp_cond, seqK_n, seqK_g, noG_r, scpK_g, condK_t, evK_some, appK_eq, appC_eq, grd_t, srun_nil, srun_cons, stepK_grd, sk_give, sk_pick, sk_un, sk_store, sk_bld, get_mk, raw_slot, raw_lit, put_some, put_none, wb_nil, ev_give, ev_pick, ev_not, ev_bld, ro_int, ro_bool, pubs, pubsFrom, List.map_cons, List.map_nil, List.getD_cons_zero, List.getD_cons_succ, List.length_nil, Bool.false_eq_true, Option.map_some, ↓reduceIte, List.zip_nil_right, fillV, Bool.not_false]
        exact ⟨_, _, retOf_c2 (n := 8) (id := st.length) (t := 3) (l := [.int .i64 0, .int .i64 0, .int .i64 0, .int .i64 0, .int .i64 0, .int .i64 0, .int .i64 0, .nilS]) (r := .agg [.int .i64 0, .int .i64 0, .int .i64 0, .int .i64 0, .int .i64 0, .int .i64 0, .int .i64 0, .nilS]) rfl (by rw [getA0]; rfl) rfl rfl, trim1 ho rfl, rfl, rfl⟩
    · have hne : ((W.endF si).e != 0) = true := by rw [bne_iff_ne]; exact hE
      have hb : okR (st.length + 3) x = false := by
        unfold okR; rw [hrP, Bool.and_eq_false_iff]
        exact .inl (by rw [beq_eq_false_iff_ne]; exact hE)
      have e1 : rdM st x = Mf.none := by unfold rdM; rw [hb]; rfl
      have e2 : rdC st x = 4 := by unfold rdC; rw [hb]; rfl
      have e3 : rdT st x = st := by unfold rdT; rw [hb]; rfl
      simp only [e1, e2, e3]
      simp (maxSteps := 2000000) (disch := first | omega | simp only [List.length_append, List.length_cons, List.length_nil, List.length_map] <;> omega) only [hne, sZ, setA, List.set_cons_zero, List.set_cons_succ, flg_int, swp_seq, swp_reg, swp_skip, swp_ret, swp_goto, swp_cond, seqK_n, seqK_g, noG_r, scpK_g, condK_t, evK_some, appK_eq, appC_eq, grd_t, srun_nil, srun_cons, stepK_grd, sk_mv, sk_give, sk_pick, sk_bin, sk_store, sk_bld, get_mk, raw_slot, raw_lit, put_some, put_none, wb_nil, ev_mv, ev_give, ev_pick, bin_neq, ev_bld, ro_int, ro_bool, pubs, pubsFrom, List.map_cons, List.map_nil, List.getD_cons_zero, List.getD_cons_succ, List.length_nil, Bool.false_eq_true, Option.map_some, ↓reduceIte, List.zip_nil_right, fillV, reduceCtorEq]
      exact ⟨_, _, retOf_c2 (n := 8) (id := st.length) (t := 3) (l := [.int .i64 0, .int .i64 0, .int .i64 0, .int .i64 0, .int .i64 0, .int .i64 0, .int .i64 0, .nilS]) (r := .agg [.int .i64 0, .int .i64 0, .int .i64 0, .int .i64 0, .int .i64 0, .int .i64 0, .int .i64 0, .nilS]) rfl (by rw [getA0]; rfl) rfl rfl, trim1 ho rfl, rfl, rfl⟩
  have hd : decide ((i : Int) < (nn : Int)) = true := by rw [decide_eq_true_eq]; omega
  have fin : ((nn : Int) - ((i + 1 : Nat) : Int)).toNat < ((nn : Int) - (i : Int)).toNat := by omega
  have hid : st.length + 3 + ((pcObs L).length + 2) = st.length + 3 + (3 * i + 2) := by rw [pcObs_len, hLl]
  have kP := fun A B => xPc (st := st) hsi A B (pcObs L)
  rw [hid] at kP
  have mP : (pcF (st.length + 3 + (3 * i + 2)) si).cells.map ro1 = (pcF (st.length + 3 + (3 * i + 2)) si).cells := rfl
  have cP : (pcF (st.length + 3 + (3 * i + 2)) si).cells.all isCell = true := rfl
  have lP : (pcF (st.length + 3 + (3 * i + 2)) si).cells.length = 7 := rfl
  have wP : wrCells [.str [], .bool false, .int .i64 0, .nilS, .int .i64 0, .int .i64 0, .int .i64 0] 0 (pcF (st.length + 3 + (3 * i + 2)) si).cells = (pcF (st.length + 3 + (3 * i + 2)) si).cells := rfl
  have hP : (pcF (st.length + 3 + (3 * i + 2)) si).ch = (pC si).1 := rfl
  obtain ⟨P, eP⟩ : ∃ P, pcF (st.length + 3 + (3 * i + 2)) si = P := ⟨_, rfl⟩
  rw [eP] at kP hnext mP cP lP wP hP
  simp (maxSteps := 2000000) (disch := first | omega | simp only [List.length_append, List.length_cons, List.length_nil, List.length_map] <;> omega) only [hd, List.set_cons_zero, List.set_cons_succ, swp_seq, swp_reg, swp_skip, swp_block, swp_cond, seqK_n, condK_t, evK_some, appK_eq, srun_nil, srun_cons, sk_mv, sk_bin, sk_fld, get_mk, raw_slot, put_some, wb_nil, ev_mv, ev_fld, bin_lss, ro_ptr, List.map_cons, List.map_nil, List.getD_cons_zero, List.getD_cons_succ, List.length_cons, List.length_nil, List.replicate_succ, List.replicate_zero, List.cons_append, List.nil_append, Nat.reduceAdd, Nat.zero_add, List.length_append]
  have hbad : (pC si).2.e ≠ 0 → okR (st.length + 3) x = false := by
    intro hne
    have e1 : (psF (st.length + 3) (i + 1) s2).2.e ≠ 0 := by rw [hnext]; exact hne
    have e2 := psF_err (st.length + 3) s2 e1 (nn - (i + 1))
    rw [show i + 1 + (nn - (i + 1)) = nn by omega] at e2
    unfold okR
    rw [show (rdP (st.length + 3) x).2 = (psF (st.length + 3) nn s2).2 by unfold rdP; rw [hrN]; rfl, e2, W.endF_err e1, Bool.and_eq_false_iff]
    exact .inl (by rw [beq_eq_false_iff_ne]; exact e1)
  rcases List.eq_nil_or_concat L with hL | hL
  · subst hL
    have hi0 : i = 0 := by rw [← hLl]; rfl
    subst hi0
    rw [show pvS (.own 7) [] = .nilS from rfl, show pcObs [] = [] from rfl]
    rw [show pcObs [] = [] from rfl] at kP
    apply swp_to
    · repeat' first
        | exact swp_ttI
        | refine swp_bothI ?_ ?_
        | refine callK_intro (kP _ _) ?_
        | exact ⟨rfl, rfl⟩
        | exact rfl
        | simp (maxSteps := 2000000) (disch := first | omega | simp only [List.length_append, List.length_cons, List.length_nil, List.length_map] <;> omega) only [mP, cP, lP, wP, st_exclW, cv_agg, getA, setA, List.set_cons_zero, List.set_cons_succ, sk_loadG, ev_loadG, apO_some, flg_nilS, exc_ptr, exc_agg, swp_reg, evK_some, appK_eq, appC_eq, srun_nil, srun_cons, stepK_call, sk_fld, sk_store, sk_bsl, sk_app, get_mk, raw_slot, put_some, put_none, wb_nil, wb_cons, ev_fld, ev_bsl, ro_nilS, got_ptr, got_agg, pubs, pubsFrom, List.map_cons, List.map_nil, List.getD_cons_zero, List.getD_cons_succ, List.getElem?_cons_zero, List.getElem?_cons_succ, List.length_cons, List.length_nil, List.replicate_succ, List.replicate_zero, List.nil_append, Nat.reduceAdd, Nat.reduceLT, true_and, and_true, Bool.false_eq_true, Option.map_some, ↓reduceIte, List.all_cons, List.all_nil, Bool.and_self, List.zip_cons_cons, List.zip_nil_right, rep, fillV, List.flatten_cons, List.flatten_nil, List.append_nil, decide_true, Nat.zero_mul, Nat.zero_add, Int.cast_ofNat_Int, Nat.le_refl, app_nil]
    have hpv : pvS (.own 7) ([] ++ [P]) = .sl P.cells 1 (.own 7) := by rw [List.nil_append]; exact pvS_ne _ (l := [P]) (by simp) |>.trans (by simp)
    simp (maxSteps := 2000000) (disch := first | omega | simp only [List.length_append, List.length_cons, List.length_nil, List.length_map] <;> omega) only [List.set_cons_zero, List.set_cons_succ, exc_ptr, swp_seq, swp_reg, seqK_n, evK_some, appK_eq, srun_cons, stepK_call, sk_mv, get_mk, raw_slot, put_some, wb_nil, ev_mv, ro_ptr, got_ptr, pubs, pubsFrom, List.map_cons, List.map_nil, List.getD_cons_zero, List.getD_cons_succ, Bool.false_eq_true, ↓reduceIte, Int.cast_ofNat_Int]
    refine callK_intro (x44r (by rw [getA]; rfl)) ?_
    by_cases hE : (pC si).2.e = 0
    · have hne : ((pC si).2.e != 0) = false := by rw [hE]; rfl
      simp (maxSteps := 2000000) (disch := first | omega | simp only [List.length_append, List.length_cons, List.length_nil, List.length_map] <;> omega) only [hne, List.set_cons_zero, List.set_cons_succ, lpK_n, swp_reg, swp_skip, swp_cond, seqK_n, blkK_n, condK_f, evK_some, appK_eq, appC_eq, srun_nil, srun_cons, sk_mv, sk_bin, get_mk, raw_slot, raw_lit, put_some, wb_nil, ev_mv, bin_add, bin_neq, ro_int, List.map_cons, List.map_nil, List.getD_cons_zero, List.getD_cons_succ, Int.reduceAdd, wrap_i64]
      refine ⟨_, ?_, ⟨0 + 1, by omega, rfl⟩, by exact fin⟩
      rw [hnext]
      simp only [pcObs_snoc, hP, hpv]
      refine Forget.of ?_
      repeat first | exact fg_e | refine fg_d ?_ | refine fg_k rfl ?_
    · have hne : ((pC si).2.e != 0) = true := by rw [bne_iff_ne]; exact hE
      have hb := hbad hE
      have e1 : rdM st x = Mf.none := by unfold rdM; rw [hb]; rfl
      have e2 : rdC st x = 4 := by unfold rdC; rw [hb]; rfl
      have e3 : rdT st x = st := by unfold rdT; rw [hb]; rfl
      simp only [e1, e2, e3]
      simp (maxSteps := 2000000) (disch := first | omega | simp only [List.length_append, List.length_cons, List.length_nil, List.length_map] <;> omega) only [hne, sZ, List.set_cons_zero, List.set_cons_succ, lpK_g, flg_int, swp_seq, swp_reg, swp_skip, swp_ret, swp_goto, swp_cond, seqK_n, seqK_g, blkK_g, noG_r, scpK_g, condK_t, evK_some, appK_eq, appC_eq, srun_nil, srun_cons, sk_give, sk_bin, sk_store, sk_bld, get_mk, raw_slot, raw_lit, put_some, put_none, wb_nil, ev_give, bin_neq, ev_bld, ro_int, pubs, pubsFrom, List.map_cons, List.map_nil, List.getD_cons_zero, List.getD_cons_succ, List.length_nil, Bool.false_eq_true, Option.map_some, ↓reduceIte, List.zip_nil_right, fillV]
      exact ⟨_, _, retOf_c2 (n := 8) (id := st.length) (t := 3) (l := [.int .i64 0, .int .i64 0, .int .i64 0, .int .i64 0, .int .i64 0, .int .i64 0, .int .i64 0, .nilS]) (r := .agg [.int .i64 0, .int .i64 0, .int .i64 0, .int .i64 0, .int .i64 0, .int .i64 0, .int .i64 0, .nilS]) rfl (by rw [getA0]; rfl) rfl rfl, trim1 ho rfl, rfl, rfl⟩
  have hLn : L ≠ [] := by obtain ⟨a, b, rfl⟩ := hL; simp
  rw [pvS_ne _ hLn]
  have hFl : (L.flatMap Pc.cells).length = i * 7 := by rw [flat_len (pc_len _), hLl]
  rw [hLl]
  obtain ⟨F, eF⟩ : ∃ F, L.flatMap Pc.cells = F := ⟨_, rfl⟩
  rw [eF] at hFl ⊢
  apply swp_to
  · repeat' first
      | exact swp_ttI
      | refine swp_bothI ?_ ?_
      | refine callK_intro (kP _ _) ?_
      | exact ⟨rfl, rfl⟩
      | exact rfl
      | simp (maxSteps := 2000000) (disch := first | omega | simp only [List.length_append, List.length_cons, List.length_nil, List.length_map] <;> omega) only [mP, cP, lP, wP, st_ownW, cv_agg, getA, setA, List.set_cons_zero, List.set_cons_succ, app_own, sk_loadG, ev_loadG, apO_some, flg_own, exc_ptr, exc_agg, swp_reg, evK_some, appK_eq, appC_eq, srun_nil, srun_cons, stepK_call, sk_fld, sk_store, sk_bsl, sk_app, get_mk, raw_slot, put_some, put_none, wb_nil, wb_cons, ev_fld, ev_bsl, ro_own, got_ptr, got_agg, pubs, pubsFrom, List.map_cons, List.map_nil, List.getD_cons_zero, List.getD_cons_succ, List.getElem?_cons_zero, List.getElem?_cons_succ, List.length_cons, List.length_nil, List.replicate_succ, List.replicate_zero, Nat.reduceAdd, Nat.reduceLT, true_and, and_true, Bool.false_eq_true, Option.map_some, ↓reduceIte, List.all_cons, List.all_nil, Bool.and_self, List.zip_cons_cons, List.zip_nil_right, rep, fillV, List.flatten_cons, List.flatten_nil, List.append_nil, decide_true, Nat.zero_mul, Nat.zero_add, Nat.le_refl]
  have hpv : pvS (.own 7) (L ++ [P]) = .sl (F ++ P.cells) (i + 1) (.own 7) := by rw [pvS_ne _ (by simp), List.flatMap_append, eF, List.length_append, hLl]; simp
  simp (maxSteps := 2000000) (disch := first | omega | simp only [List.length_append, List.length_cons, List.length_nil, List.length_map] <;> omega) only [List.set_cons_zero, List.set_cons_succ, exc_ptr, swp_seq, swp_reg, seqK_n, evK_some, appK_eq, srun_cons, stepK_call, sk_mv, get_mk, raw_slot, put_some, wb_nil, ev_mv, ro_ptr, got_ptr, pubs, pubsFrom, List.map_cons, List.map_nil, List.getD_cons_zero, List.getD_cons_succ, Bool.false_eq_true, ↓reduceIte]
  refine callK_intro (x44r (by rw [getA]; rfl)) ?_
  by_cases hE : (pC si).2.e = 0
  · have hne : ((pC si).2.e != 0) = false := by rw [hE]; rfl
    simp (maxSteps := 2000000) (disch := first | omega | simp only [List.length_append, List.length_cons, List.length_nil, List.length_map] <;> omega) only [hne, List.set_cons_zero, List.set_cons_succ, lpK_n, swp_reg, swp_skip, swp_cond, seqK_n, blkK_n, condK_f, evK_some, appK_eq, appC_eq, srun_nil, srun_cons, sk_mv, sk_bin, get_mk, raw_slot, raw_lit, put_some, wb_nil, ev_mv, bin_add, bin_neq, ro_int, List.map_cons, List.map_nil, List.getD_cons_zero, List.getD_cons_succ, wrap_i64]
    refine ⟨_, ?_, ⟨i + 1, by omega, rfl⟩, by exact fin⟩
    rw [hnext]
    simp only [pcObs_snoc, hP, hpv]
    refine Forget.of ?_
    repeat first | exact fg_e | refine fg_d ?_ | refine fg_k rfl ?_
  · have hne : ((pC si).2.e != 0) = true := by rw [bne_iff_ne]; exact hE
    have hb := hbad hE
    have e1 : rdM st x = Mf.none := by unfold rdM; rw [hb]; rfl
    have e2 : rdC st x = 4 := by unfold rdC; rw [hb]; rfl
    have e3 : rdT st x = st := by unfold rdT; rw [hb]; rfl
    simp only [e1, e2, e3]
    simp (maxSteps := 2000000) (disch := first | omega | simp only [List.length_append, List.length_cons, List.length_nil, List.length_map] <;> omega) only [hne, sZ, List.set_cons_zero, List.set_cons_succ, lpK_g, flg_int, swp_seq, swp_reg, swp_skip, swp_ret, swp_goto, swp_cond, seqK_n, seqK_g, blkK_g, noG_r, scpK_g, condK_t, evK_some, appK_eq, appC_eq, srun_nil, srun_cons, sk_give, sk_bin, sk_store, sk_bld, get_mk, raw_slot, raw_lit, put_some, put_none, wb_nil, ev_give, bin_neq, ev_bld, ro_int, pubs, pubsFrom, List.map_cons, List.map_nil, List.getD_cons_zero, List.getD_cons_succ, List.length_nil, Bool.false_eq_true, Option.map_some, ↓reduceIte, List.zip_nil_right, fillV]
    exact ⟨_, _, retOf_c2 (n := 8) (id := st.length) (t := 3) (l := [.int .i64 0, .int .i64 0, .int .i64 0, .int .i64 0, .int .i64 0, .int .i64 0, .int .i64 0, .nilS]) (r := .agg [.int .i64 0, .int .i64 0, .int .i64 0, .int .i64 0, .int .i64 0, .int .i64 0, .int .i64 0, .nilS]) rfl (by rw [getA0]; rfl) rfl rfl, trim1 ho rfl, rfl, rfl⟩
end Go.Sh.F
namespace Go.Sh.F
open Go.PathLaw Go.Proofs
def KRd : List SV → List Ob → SV → List Ob → Prop := fun args st r st' => ∃ x : List UInt8, x.length ≤ 268435456 ∧ okSt st ∧ args = [.str x] ∧ r = .tup [.agg (rdM st x).cells, .int .i64 (rdC st x)] ∧ st' = rdT st x
def O213 : Orc := O212.add 22 KRd
theorem s213 : Sound Tryd.prog O213 := s212.add c22 (by kernel_rfl) (by
  rintro args st r st' ⟨x, hx, ho, rfl, rfl, rfl⟩
  exact ⟨by simp [sf22], g22r x st hx ho⟩)
def mOne (v : SV) : Mf := ⟨1, 2, 7, 3, 4, 0, 0, v, [⟨[97, 47, 98], true, 65, .sl (isv [8, 9]) 2 .ro, [8, 9], 5, 0, 1⟩, ⟨[99], false, 0, .nilS, [], 0, 1, 0⟩]⟩
def bOne : List UInt8 := bytesF (mOne .nilS)
theorem ok1 (b : Nat) : okR b bOne = true := by kernel_rfl
theorem ok2 (b : Nat) : okR b (bOne ++ [0]) = false := by kernel_rfl
theorem ok3 (b : Nat) : okR b (bOne.take 36) = false := by kernel_rfl
theorem len1 : bOne.length = 100 := by kernel_rfl
theorem ch1 : chF (mOne .nilS).ps = [8, 9] := by kernel_rfl
theorem rt1 (v : SV) : rightM (mOne v) = true := by kernel_rfl
def mOff (v : SV) : Mf := { mOne v with ps := [⟨[97, 47, 98], true, 64, .sl (isv [8, 9]) 2 .ro, [8, 9], 5, 0, 1⟩, ⟨[99], false, 0, .nilS, [], 0, 1, 0⟩] }
theorem rt2 (v : SV) : rightM (mOff v) = false := by kernel_rfl
theorem sm1 (v w : SV) : sameM (mOne v) (mOff w) = false := by kernel_rfl
theorem sm2 (b : Nat) (v : SV) : sameM (mfR .ro b bOne) (mOne v) = true := by kernel_rfl
def mTwo : Mf := ⟨1, 2, 0, 0, 0, 0, 0, .nilS, []⟩
theorem len2 : (bytesF mTwo).length = 32 := by kernel_rfl
theorem cell_sl {xs : List SV} {n : Nat} {f : Fl} : isCell (.sl xs n f) = true := rfl
theorem cell_slo {i o n : Nat} : isCell (.slo i o n) = true := rfl
theorem g26o (O : Orc) (st : List Ob) : swpF O sf26 [] st (fun r st' => r = .agg (mOne (.slo (st.length + 1) 0 2)).cells ∧ st' = st ++ [.cells (mOne (.slo (st.length + 1) 0 2)).cells, .cells ((mOne (.slo (st.length + 1) 0 2)).ps.flatMap Pc.cells)]) := by
  have sZ := st_aggA (st := st) (l := [.cells [.int .i64 0, .int .i64 0, .int .i64 0, .int .i64 0, .int .i64 0, .int .i64 0, .int .i64 0, .nilS], .cells ((mOne (.slo (st.length + 1) 0 2)).ps.flatMap Pc.cells)]) (i := 0) (n := 8) (b := true) (xs := (mOne (.slo (st.length + 1) 0 2)).cells) rfl rfl rfl rfl rfl
  simp only [mOne, Mf.cells, Pc.cells, isv, List.map_cons, List.map_nil, List.flatMap_cons, List.flatMap_nil, List.append_nil, List.cons_append, List.nil_append, Nat.add_zero, List.set_cons_zero] at sZ ⊢
  simp (maxSteps := 2000000) (disch := first | omega | simp only [List.length_append, List.length_cons, List.length_nil, List.length_map] <;> omega) only [sf26, cell_sl, cell_slo, sZ, nbI, cv_agg, cv_int, cv_str, cv_bool, cv_fn, cv_nilS, cv_nilF, cv_nilP, cv_ptr, cv_sl, cv_slo, cell_fn, eq_pair, eq_four, cell_str, cell_int, cell_bool, cell_nilS, getA0, getA, setA0, setA, ev_ldA, List.drop_succ_cons, List.drop_zero, List.take_succ_cons, List.take_zero, List.append_assoc, Nat.add_zero, List.set_cons_zero, List.set_cons_succ, lpK_n, lpK_e, lpK_r, lpK_g, Int.toNat_natCast, sk_bslO, ev_bslO, sk_storeO, ev_storeO_x, ev_storeO_nil, stepK_callp, app_own, sk_giveP, ev_giveP, pub_excl2, pub_own, sk_loadG, sk_ment, sk_mest, ev_ment, ev_mest, ev_loadG, sk_mkM, sk_lkp, sk_upd, ev_mkM, ev_mkM1, apM_some, ev_lkp, ev_lkpN, ev_upd, ev_lenMp, ev_lenMn, stepK_callv, callvK_fn, ev_idxP, sk_giveO, sk_cpy, sk_slcP, ro_slo, ro1_slo, ro2_slo, got_slo, flg_slo, exc_slo, ev_giveO_x, ev_giveO_nil, ev_giveO_slo, ev_giveO_ro, ev_lenO, ev_eqNs3, ev_idxO, apO_some, ev_b2O, ev_appO, slcO_hi, slcO_lo, slcO_both, slcP_all, ev_cpS, slcO_clone, flg_undef, flg_bool, flg_int, flg_str, flg_nilS, flg_nilP, flg_ptr, flg_agg, flg_tup, flg_nilF, flg_fn, flg_nilM, flg_mp, flg_elv, flg_ro, flg_full, flg_own, flg_excl, exc_undef, exc_bool, exc_int, exc_str, exc_nilS, exc_nilP, exc_ptr, exc_agg, exc_tup, exc_nilF, exc_fn, exc_nilM, exc_mp, exc_elv, exc_ro, exc_full, exc_own, exc_excl, sk_idxB, idxB_ro, idxB_full, idxB_own, idxB_excl, idxB_O, grd_s, swp_seq, swp_reg, swp_skip, swp_ret, swp_exit, swp_label, swp_goto, swp_block, swp_scope, swp_both, swp_cond, seqK_n, seqK_e, seqK_r, seqK_g, blkK_n, blkK_e, blkK_r, blkK_g, noG_n, noG_e, noG_r, scpK_n, scpK_e, scpK_r, scpK_g, condK_t, condK_f, evK_some, appK_eq, appC_eq, grd_t, srun_nil, srun_cons, stepK_call, stepK_grd, fin_ret, fin_n, fin_nil, fin_two, fin_three, swpF_eq, sk_mv, sk_take, sk_give, sk_pick, sk_bin, sk_eqB, sk_eqN, sk_eqA, sk_un, sk_cvI, sk_b2s, sk_s2b, sk_idS, sk_nilc, sk_fld, sk_fldV, sk_idxS, sk_idxV, sk_idxA, sk_idxP, sk_load, sk_store, sk_lenS, sk_lenL, sk_lenA, sk_lenM, sk_min, sk_max, sk_slcS, sk_slcL, sk_mkS, sk_bsl, sk_bld, sk_box, sk_alloc, sk_ext, sk_app, sk_mfn, get_mk, raw_slot, raw_lit, put_some, put_none, wb_nil, wb_cons, ev_mv, ev_take, ev_give, ev_pick, ev_eqB, ev_not, ev_cvI, ev_nilc, ev_fld, ev_lenS, ev_lenL, ev_lenN, ev_min, ev_max, ev_eqNs1, ev_eqNs2, ev_eqNp1, ev_eqNp2, ev_ext, bin_add, bin_sub, bin_mul, bin_and, bin_or, bin_xor, bin_eql, bin_neq, bin_lss, bin_leq, bin_gtr, bin_geq, bin_eqlS, bin_neqS, bin_lssS, unr_succ, unrK_n, unrK_e, unrK_r, unrK_g, ev_b2sN, bsl_nil, ev_bsl, ev_bld, ev_box, ev_alloc, ev_ldP, ldP_some, stP_some, setOb_setOb, setOb_len, ev_loadE, slcS_hi, slcS_lo, slcS_both, slcL_hi_ro, slcL_lo_ro, slcL_both_ro, idxA_ro, slcL_hi_full, slcL_lo_full, slcL_both_full, idxA_full, slcL_hi_own, slcL_lo_own, slcL_both_own, idxA_own, slcL_nil_hi, slcL_nil_both, app_excl_str, ro_undef, ro_int, ro_bool, ro_str, ro_nilS, ro_nilP, ro_nilF, ro_nilM, ro_ptr, ro_mp, ro_fn, ro_elv, ro_ro, ro_full, ro_own, ro_excl, ro_agg, ro_tup, ro1_int, ro1_str, ro1_bool, ro1_nilS, ro2_nilS, ro1_nilP, ro2_nilP, ro1_nilF, ro2_nilF, ro1_nilM, ro2_nilM, ro1_ptr, ro2_ptr, ro1_mp, ro2_mp, ro1_fn, ro2_fn, ro1_ro, ro2_ro, ro1_full, ro2_full, ro1_own, ro2_own, ro2_int, ro2_str, ro2_bool, got_excl, got_own, got_roo, got_full, got_int, got_bool, got_str, got_nilS, got_nilP, got_ptr, got_fn, got_mp, got_undef, got_agg, pub_excl, pubs, pubsFrom, List.map_cons, List.map_nil, List.getD_cons_zero, List.getD_cons_succ, List.getElem?_cons_zero, List.getElem?_cons_succ, List.length_cons, List.length_nil, List.replicate_succ, List.replicate_zero, List.cons_append, List.nil_append, Nat.reduceAdd, Nat.reduceSub, Nat.reduceMul, Nat.reduceLeDiff, Nat.reduceLT, Nat.reduceEqDiff, if_true, if_false, true_and, and_true, Bool.false_eq_true, Option.map_some, Option.bind_some, ↓reduceIte, List.all_cons, List.all_nil, Bool.and_true, Bool.and_self, List.zip_cons_cons, List.zip_nil_left, List.zip_nil_right, rep, fillV, wrCells, List.flatten_cons, List.flatten_nil, List.append_nil, decide_true, decide_false, Nat.zero_mul, Nat.mul_one, Nat.zero_add, reduceCtorEq, not_false_eq_true, forall_const, implies_true, Bool.not_true, Bool.not_false, beq_self_eq_true, bne_self_eq_false, Int.reduceBEq, Int.reduceBNe, st_bool, st_int, st_str, st_nilS, st_nilP, st_ptr, st_nilF, st_fn, st_nilM, st_mp, st_ro, st_full, setOb_same, ge_iff_le, gt_iff_lt, Int.cast_ofNat_Int, or_step, or_zero, Int.zero_mul, Int.reduceLE, Int.reduceLT, Int.reduceMul, Int.reduceSub, Int.reduceAdd, Int.reduceToNat, Int.reduceNeg, Int.reducePow, Nat.reducePow, IntKind.bits, wrap_i64, wrap_u8, bin_shr, bin_shl, Nat.min_def, ne_eq, Nat.one_ne_zero, List.length_append, Nat.le_refl, not_true_eq_false, app_excl, app_nil]
  exact ⟨_, _, retOf_cell (n := 8) (id := st.length) (l := [.int .i64 1, .int .i64 2, .int .i64 7, .int .i64 3, .int .i64 4, .int .i64 0, .int .i64 0, .slo (st.length + 1) 0 2]) rfl (by rw [getA0]; rfl) rfl rfl, .same, rfl, rfl⟩
theorem mOne_cells (v : SV) : (mOne v).cells = [.int .i64 1, .int .i64 2, .int .i64 7, .int .i64 3, .int .i64 4, .int .i64 0, .int .i64 0, v] := rfl
def oneP : List SV := (mOne .nilS).ps.flatMap Pc.cells
theorem mOne_ok {S : List Ob} {i : Nat} (h : S[i]? = some (.cells oneP)) : (mOne (.slo i 0 2)).ok S := by
  refine ⟨⟨rfl, .inr (.inr ⟨i, 0, oneP, rfl, h, Nat.le_refl _, rfl⟩)⟩, show 2 ≤ 268435456 by decide, ?_⟩
  intro p hp
  simp only [mOne, List.mem_cons, List.not_mem_nil, or_false] at hp
  rcases hp with rfl | rfl
  · exact ⟨RowI.mk (.inl rfl) rfl, show 2 ≤ 268435456 by decide, show 3 ≤ 268435456 by decide⟩
  · exact ⟨RowI.nil _, show 0 ≤ 268435456 by decide, show 1 ≤ 268435456 by decide⟩
theorem mOne_fit (v : SV) : (mOne v).fit := by exact ⟨show -9223372036854775808 ≤ (2 : Int) by decide, show (2 : Int) ≤ 9223372036854775807 by decide⟩
theorem mOne_fitB (v : SV) : fitB (mOne v) := by
  refine ⟨show 2 ≤ 1024 by decide, ?_⟩
  intro p hp
  simp only [mOne, List.mem_cons, List.not_mem_nil, or_false] at hp
  rcases hp with rfl | rfl
  · exact show 2 ≤ 32768 by decide
  · exact show 0 ≤ 32768 by decide
def K26o : List SV → List Ob → SV → List Ob → Prop := fun args st r st' => args = [] ∧ r = .agg (mOne (.slo (st.length + 1) 0 2)).cells ∧ st' = st ++ [.cells (mOne (.slo (st.length + 1) 0 2)).cells, .cells oneP]
def O214 : Orc := O213.add 26 K26o
theorem s214 : Sound Tryd.prog O214 := s213.add c26 (by kernel_rfl) (by
  rintro args st r st' ⟨rfl, rfl, rfl⟩
  exact ⟨by simp [sf26], g26o _ st⟩)
theorem rdT_ext (st : List Ob) (x : List UInt8) : ∃ X, rdT st x = st ++ X := by
  unfold rdT; split
  · exact ⟨_, rfl⟩
  · exact ⟨[], by simp⟩
theorem rdM_ok {st : List Ob} {x : List UInt8} (hx : x.length ≤ 268435456) (ho : okSt st) : (rdM st x).ok (rdT st x) ∧ okSt (rdT st x) ∧ (rdM st x).fit ∧ fitB (rdM st x) := by
  by_cases hb : okR (st.length + 3) x = true
  · unfold rdM rdT
    rw [if_pos hb, if_pos hb]
    have hs0 : rdOk (.sl (W.bsv x) x.length .ro) ⟨x, 0, 0⟩ := ⟨rdv_s x, by show x.length ≤ _; omega, Nat.zero_le _⟩
    obtain ⟨hs1, hl1, _⟩ := rdOk_nums (most := MX) 7 hs0
    obtain ⟨nn, hn1, hn2⟩ := numF_le (s := (hdS x).2) (most := 32) (by decide) hs1.2.2
    obtain ⟨hs2, hl2⟩ := rdOk_num hs1 32
    have hk : (rdP (st.length + 3) x).1.length = nn := by
      unfold rdP; rw [psF_len, show (rdN x).1 = (nn : Int) from hn1, Int.toNat_natCast]
    have hrow : ∀ p ∈ (rdP (st.length + 3) x).1, p.ok (st ++ (.cells (mfR .ro (st.length + 3) x).cells :: .cells (mfR (.own 7) (st.length + 3) x).cells :: .cells [.sl (W.bsv x) x.length .ro, .int .i64 (W.endF (rdP (st.length + 3) x).2).p, .int .i64 (W.endF (rdP (st.length + 3) x).2).e] :: pcObs (rdP (st.length + 3) x).1)) ∧ p.ch.length ≤ 10 ∧ p.path.length ≤ x.length := by
      have := psF_row (st := st) (A := .cells (mfR .ro (st.length + 3) x).cells) (B := .cells (mfR (.own 7) (st.length + 3) x).cells) (C := .cells [.sl (W.bsv x) x.length .ro, .int .i64 (W.endF (rdP (st.length + 3) x).2).p, .int .i64 (W.endF (rdP (st.length + 3) x).2).e]) (rdN x).1.toNat hs2 (by rw [hl2, hl1]; exact hx)
      rw [hl2, hl1] at this
      exact this
    have hids := fun p hp => RowI.idOk (hrow p hp).1.1
    refine ⟨⟨row_pvS _ _, by show (rdP (st.length + 3) x).1.length ≤ _; omega, fun p hp => (hrow p hp).1⟩, okSt_ps ho (fun p hp => (hrow p hp).1) ?_ ?_ ?_, ?_, ?_, ?_⟩
    · show idOks _ _ = true
      simp only [Mf.cells, idOks, idOk, Bool.true_and, Bool.and_true]
      exact idOk_pvS hids
    · show idOks _ _ = true
      simp only [Mf.cells, idOks, idOk, Bool.true_and, Bool.and_true]
      exact idOk_pvS hids
    · show idOks _ _ = true
      simp only [idOks, idOk, Bool.true_and, Bool.and_true]
      exact idOks_bsvW x
    · have := numsF_le 7 hs0 (mfR .ro (st.length + 3) x).ve (by
        show (hdS x).1.getD 1 0 ∈ (hdS x).1
        have h7 : (hdS x).1.length = 7 := (rdOk_nums (most := MX) 7 hs0).2.2
        rw [List.getD_eq_getElem?_getD, List.getElem?_eq_getElem (by omega)]
        exact List.getElem_mem _)
      unfold Mf.fit; exact ⟨by omega, by have := this.2; simp only [MX] at this; omega⟩
    · show (rdP (st.length + 3) x).1.length ≤ _; omega
    · intro p hp; have := (hrow p hp).2.1; omega
  · unfold rdM rdT
    rw [if_neg hb, if_neg hb]
    exact ⟨Mf.none_ok _, ho, by unfold Mf.fit Mf.none; exact ⟨by decide, by decide⟩, by decide, by simp [Mf.none]⟩
end Go.Sh.F
namespace Go.Sh.F
open Go.PathLaw Go.Proofs
theorem y18 {m : Mf} {st : List Ob} (h : m.ok st) (hf : m.fit) (ho : okSt st) : O214 18 [.agg m.cells] st (.bool (rightM m)) st := (by repeat first | exact Or.inr ⟨rfl, rfl, m, h, hf, ho, rfl, rfl⟩ | refine Or.inl ?_)
theorem y20 {m : Mf} {st : List Ob} (h : m.ok st) (hf : fitB m) (ho : okSt st) : O214 20 [.agg m.cells] st (.str (bytesF m)) st := (by repeat first | exact Or.inr ⟨rfl, rfl, m, h, hf, ho, rfl, rfl⟩ | refine Or.inl ?_)
theorem y22 {x : List UInt8} {st : List Ob} (hx : x.length ≤ 268435456) (ho : okSt st) : O214 22 [.str x] st (.tup [.agg (rdM st x).cells, .int .i64 (rdC st x)]) (rdT st x) := .inl (.inr ⟨rfl, x, hx, ho, rfl, rfl, rfl⟩)
theorem y22f {x : List UInt8} {st : List Ob} (hx : x.length ≤ 268435456) (ho : okSt st) (hb : ∀ b, okR b x = false) : O214 22 [.str x] st (.tup [.agg Mf.none.cells, .int .i64 4]) st := by
  have := y22 hx ho
  have e1 : rdM st x = Mf.none := by unfold rdM; rw [hb]; rfl
  have e2 : rdC st x = 4 := by unfold rdC; rw [hb]; rfl
  have e3 : rdT st x = st := by unfold rdT; rw [hb]; rfl
  rwa [e1, e2, e3] at this
theorem y16 {m : Mf} {st : List Ob} (h : m.ok st) (hf : fitB m) (ho : okSt st) : O214 16 [.agg m.cells] st (chV (chF m.ps)) st := (by repeat first | exact Or.inr ⟨rfl, rfl, m, h, hf, ho, rfl, rfl⟩ | refine Or.inl ?_)
theorem y14 {a b : Mf} {st : List Ob} (ha : a.ok st) (hb : b.ok st) (ho : okSt st) : O214 14 [.agg a.cells, .agg b.cells] st (.bool (sameM a b)) st := (by repeat first | exact Or.inr ⟨rfl, rfl, a, b, ha, hb, ho, rfl, rfl⟩ | refine Or.inl ?_)
theorem y26 (st : List Ob) : O214 26 [] st (.agg (mOne (.slo (st.length + 1) 0 2)).cells) (st ++ [.cells (mOne (.slo (st.length + 1) 0 2)).cells, .cells oneP]) := .inr ⟨rfl, rfl, rfl, rfl⟩
theorem y12 {m : Mf} {st : List Ob} (h : m.ok st) (hc : ∀ p ∈ m.ps, p.ch.length ≤ 1048576) (ho : okSt st) : O214 12 [.agg m.cells] st (.agg (cpM st m).cells) (cpS st m) :=
  .inl (.inl (.inl (.inl (.inl (.inl (.inl (.inl (.inl (.inl (.inl (.inl (.inl (.inl (.inl (.inr ⟨rfl, m, h, hc, ho, rfl, rfl, rfl⟩)))))))))))))))
def Z8 : List SV := [.int .i64 0, .int .i64 0, .int .i64 0, .int .i64 0, .int .i64 0, .int .i64 0, .int .i64 0, .nilS]
theorem ro1_mf {st : List Ob} {m : Mf} (h : m.ok st) : m.cells.map ro1 = m.cells := by
  obtain ⟨q1, q2, q3, q4, q6, q7⟩ := h.1.facts
  simp only [Mf.cells, List.map_cons, List.map_nil, ro1_int, q6]
theorem cell_mf {st : List Ob} {m : Mf} (h : m.ok st) : m.cells.all isCell = true := by
  obtain ⟨q1, q2, q3, q4, q6, q7⟩ := h.1.facts
  simp only [Mf.cells, List.all_cons, List.all_nil, cell_int, q7, Bool.and_self]
theorem stM {st l : List Ob} {i : Nat} {c : List SV} {m : Mf} {S : List Ob} (hl : l[i]? = some (.cells c)) (hc : c.length = 8) (hm : m.ok S) : ev (st ++ l) (.store 8 true) [.ptr (st.length + i) 0, .agg m.cells] = some (.undef, [], st ++ l.set i (.cells m.cells)) :=
  st_aggA hl (ro1_mf hm) (cell_mf hm) rfl hc
def offP : List SV := oneP.set 2 (.int .i64 64)
theorem mOff_ok {S : List Ob} {i : Nat} (h : S[i]? = some (.cells offP)) : (mOff (.slo i 0 2)).ok S := by
  refine ⟨⟨rfl, .inr (.inr ⟨i, 0, offP, rfl, h, Nat.le_refl _, rfl⟩)⟩, show 2 ≤ 268435456 by decide, ?_⟩
  intro p hp
  simp only [mOff, List.mem_cons, List.not_mem_nil, or_false] at hp
  rcases hp with rfl | rfl
  · exact ⟨RowI.mk (.inl rfl) rfl, show 2 ≤ 268435456 by decide, show 3 ≤ 268435456 by decide⟩
  · exact ⟨RowI.nil _, show 0 ≤ 268435456 by decide, show 1 ≤ 268435456 by decide⟩
set_option maxHeartbeats 32000000 in
set_option maxRecDepth 50000 in
theorem g10s (st : List Ob) (ho : okSt st) : swpF O214 sf10 [] st (fun r st' => r = .bool true ∧ st' = st) := by
  have hv1 : (st ++ [Ob.cells (mOne (.slo (st.length + 1) 0 2)).cells, .cells oneP])[st.length + 1]? = some (.cells oneP) := by rw [getA]; rfl
  simp (maxSteps := 2000000) (disch := first | omega | simp only [List.length_append, List.length_cons, List.length_nil, List.length_map] <;> omega) only [sf10, List.set_cons_zero, flg_bool, swp_seq, swp_reg, seqK_n, evK_some, appK_eq, srun_nil, srun_cons, stepK_call, swpF_eq, sk_give, raw_lit, put_some, wb_nil, ev_give, ro_bool, pubs, pubsFrom, List.map_cons, List.map_nil, List.length_nil, List.replicate_succ, List.replicate_zero, List.nil_append, Nat.reduceSub, Bool.false_eq_true, ↓reduceIte]
  refine callK_intro (y26 _) ?_
  have ok1 : (mOne (.slo (st.length + 1) 0 2)).ok (st ++ [.cells (mOne (.slo (st.length + 1) 0 2)).cells, .cells oneP]) := mOne_ok hv1
  have sM1 := stM (st := st) (l := [.cells (mOne (.slo (st.length + 1) 0 2)).cells, .cells oneP, .cells Z8]) (i := 2) rfl rfl ok1
  simp only [Z8, List.set_cons_succ, List.set_cons_zero] at sM1
  have r1 := ro1_mf ok1
  have len8 : ∀ v, (mOne v).cells.length = 8 := fun _ => rfl
  have tk8 : ∀ v, (mOne v).cells.take 8 = (mOne v).cells := fun _ => rfl
  simp (maxSteps := 2000000) (disch := first | omega | simp only [List.length_append, List.length_cons, List.length_nil, List.length_map] <;> omega) only [sM1, r1, len8, tk8, getA, ev_ldA, List.drop_zero, List.append_assoc, List.set_cons_zero, List.set_cons_succ, apO_some, exc_agg, swp_seq, swp_reg, seqK_n, evK_some, appK_eq, appC_eq, srun_nil, srun_cons, stepK_call, sk_load, sk_store, sk_alloc, get_mk, raw_slot, put_some, put_none, wb_nil, ev_alloc, ro_agg, got_agg, pubs, pubsFrom, List.map_cons, List.map_nil, List.getD_cons_zero, List.getD_cons_succ, List.getElem?_cons_zero, List.getElem?_cons_succ, List.length_cons, List.length_nil, List.cons_append, List.nil_append, Nat.reduceAdd, Bool.false_eq_true, ↓reduceIte, Nat.zero_add, List.length_append, Nat.le_refl]
  have okT : okSt (st ++ [.cells (mOne (.slo (st.length + 1) 0 2)).cells, .cells oneP, .cells (mOne (.slo (st.length + 1) 0 2)).cells]) := by
    refine okSt_appL ho ?_
    simp only [List.length_cons, List.length_nil, List.all_cons, List.all_nil, Bool.and_true, obOk, mOne_cells, idOks, idOk, Bool.true_and, Bool.and_eq_true, decide_eq_true_eq]
    exact ⟨by omega, rfl, by omega⟩
  have okm : (mOne (.slo (st.length + 1) 0 2)).ok (st ++ [.cells (mOne (.slo (st.length + 1) 0 2)).cells, .cells oneP, .cells (mOne (.slo (st.length + 1) 0 2)).cells]) := mOne_ok (by rw [getA]; rfl)
  have gT : ∀ x, ((st ++ [.cells (mOne (.slo (st.length + 1) 0 2)).cells, .cells oneP, .cells (mOne (.slo (st.length + 1) 0 2)).cells]) ++ x)[st.length + 2]? = some (.cells (mOne (.slo (st.length + 1) 0 2)).cells) := fun x => by rw [List.append_assoc, getA]; rfl
  have eT : ∃ x, st ++ [.cells (mOne (.slo (st.length + 1) 0 2)).cells, .cells oneP, .cells (mOne (.slo (st.length + 1) 0 2)).cells] = st ++ x := ⟨_, rfl⟩
  generalize st ++ [.cells (mOne (.slo (st.length + 1) 0 2)).cells, .cells oneP, .cells (mOne (.slo (st.length + 1) 0 2)).cells] = T at okT okm gT eT ⊢
  have fB := mOne_fitB (.slo (st.length + 1) 0 2)
  have fF := mOne_fit (.slo (st.length + 1) 0 2)
  have hbO : bytesF (mOne (.slo (st.length + 1) 0 2)) = bOne := rfl
  have hch : chF (mOne (.slo (st.length + 1) 0 2)).ps = [8, 9] := ch1
  have hrt := rt1 (.slo (st.length + 1) 0 2)
  have hsm := fun b => sm2 b (.slo (st.length + 1) 0 2)
  have hso := fun w => sm1 (.slo (st.length + 1) 0 2) w
  have hcc : ∀ p ∈ (mOne (.slo (st.length + 1) 0 2)).ps, p.ch.length ≤ 1048576 := fun p hp => by have := fB.2 p hp; omega
  have hl8 : (mOne (.slo (st.length + 1) 0 2)).cells.length = 8 := rfl
  have ht8 : (mOne (.slo (st.length + 1) 0 2)).cells.take 8 = (mOne (.slo (st.length + 1) 0 2)).cells := rfl
  generalize mOne (.slo (st.length + 1) 0 2) = m1 at okm gT fB fF hbO hch hrt hsm hso hcc hl8 ht8 r1 ⊢
  generalize st.length + 2 = i1 at gT ⊢
  have hadd : ∀ s, ev s (.bin .add) [.str bOne, .str [0]] = some (.str (bOne ++ [0]), [], s) := fun s => rfl
  have hand : ∀ s, ev s (.bin .and) [.int .i64 (bOne.length : Int), .int .i64 63] = some (.int .i64 36, [], s) := fun s => by rw [len1]; rfl
  have hcut : ∀ s, ev s (.slcS false true) [.str bOne, .int .i64 36] = some (.str (bOne.take 36), [], s) := fun s => by rw [slcS_hi (by decide) (by rw [len1]; decide)]; rfl
  have k20 := y20 okm fB okT
  rw [hbO] at k20
  refine callK_intro k20 ?_
  simp (maxSteps := 2000000) (disch := first | omega | simp only [List.length_append, List.length_cons, List.length_nil, List.length_map] <;> omega) only [List.set_cons_zero, List.set_cons_succ, flg_str, exc_str, swp_seq, swp_reg, seqK_n, evK_some, appK_eq, appC_eq, srun_nil, srun_cons, stepK_call, sk_mv, sk_give, get_mk, raw_slot, put_some, wb_nil, ev_mv, ev_give, ro_str, got_str, pubs, pubsFrom, List.map_cons, List.map_nil, List.getD_cons_zero, List.getD_cons_succ, Bool.false_eq_true, ↓reduceIte]
  have hbl : bOne.length ≤ 268435456 := by rw [len1]; decide
  have k22 := y22 hbl okT
  obtain ⟨okm2, okT2, fit2, fB2⟩ := rdM_ok hbl okT
  have hs2 : sameM (rdM T bOne) m1 = true := by unfold rdM; rw [if_pos (Go.Sh.F.ok1 _)]; exact hsm _
  have hc2 : rdC T bOne = 0 := by unfold rdC; rw [if_pos (Go.Sh.F.ok1 _)]
  rw [hc2] at k22
  obtain ⟨X2, hX2⟩ := rdT_ext T bOne
  have okmB : m1.ok (rdT T bOne) := by rw [hX2]; exact okm.mono _
  have gT2 : ∀ x, (rdT T bOne ++ x)[i1]? = some (.cells m1.cells) := fun x => by rw [hX2, List.append_assoc]; exact gT _
  have eT2 : ∃ x, rdT T bOne = st ++ x := by obtain ⟨y, rfl⟩ := eT; exact ⟨y ++ X2, by rw [hX2, List.append_assoc]⟩
  generalize rdT T bOne = T2 at k22 okm2 okT2 okmB gT2 eT2
  generalize rdM T bOne = m2 at k22 okm2 fit2 fB2 hs2
  refine callK_intro k22 ?_
  have r2 := ro1_mf okm2
  have l2 : m2.cells.length = 8 := rfl
  have t2 : m2.cells.take 8 = m2.cells := rfl
  have sM2 := stM (st := T2) (l := [.cells [.int .i64 0, .int .i64 0, .int .i64 0, .int .i64 0, .int .i64 0, .int .i64 0, .int .i64 0, .nilS]]) (i := 0) rfl rfl okm2
  simp only [List.set_cons_zero, Nat.add_zero] at sM2
  simp (maxSteps := 2000000) (disch := first | omega | simp only [List.length_append, List.length_cons, List.length_nil, List.length_map] <;> omega) only [hadd, sM2, r2, List.set_cons_zero, List.set_cons_succ, flg_int, flg_agg, exc_str, swp_seq, swp_reg, seqK_n, evK_some, appK_eq, appC_eq, srun_nil, srun_cons, stepK_call, sk_mv, sk_give, sk_bin, sk_store, sk_alloc, sk_ext, get_mk, raw_slot, raw_lit, put_some, put_none, wb_nil, ev_mv, ev_give, ev_ext, ev_alloc, ro_int, ro_str, ro_agg, ro_tup, ro2_int, got_str, pubs, pubsFrom, List.map_cons, List.map_nil, List.getD_cons_zero, List.getD_cons_succ, List.getElem?_cons_zero, List.getElem?_cons_succ, Bool.false_eq_true, Option.map_some, ↓reduceIte]
  have okU : okSt (T2 ++ [.cells m2.cells]) := okM okm2 okT2
  refine callK_intro (y22f (by rw [List.length_append, len1]; decide) okU ok2) ?_
  have sN1 := stM (st := T2) (l := [.cells m2.cells, .cells [.int .i64 0, .int .i64 0, .int .i64 0, .int .i64 0, .int .i64 0, .int .i64 0, .int .i64 0, .nilS]]) (i := 1) rfl rfl (Mf.none_ok [])
  simp only [List.set_cons_zero, List.set_cons_succ] at sN1
  have rN := ro1_mf (Mf.none_ok [])
  simp (maxSteps := 2000000) (disch := first | omega | simp only [List.length_append, List.length_cons, List.length_nil, List.length_map] <;> omega) only [hand, hcut, sN1, rN, List.append_assoc, List.set_cons_zero, List.set_cons_succ, flg_int, flg_agg, exc_str, swp_seq, swp_reg, seqK_n, evK_some, appK_eq, appC_eq, srun_nil, srun_cons, stepK_call, sk_mv, sk_give, sk_bin, sk_store, sk_lenS, sk_slcS, sk_alloc, sk_ext, get_mk, raw_slot, raw_lit, put_some, put_none, wb_nil, ev_mv, ev_give, ev_lenS, ev_ext, ev_alloc, ro_int, ro_str, ro_agg, ro_tup, ro2_int, got_str, pubs, pubsFrom, List.map_cons, List.map_nil, List.getD_cons_zero, List.getD_cons_succ, List.getElem?_cons_zero, List.getElem?_cons_succ, List.length_cons, List.length_nil, List.cons_append, List.nil_append, Bool.false_eq_true, Option.map_some, ↓reduceIte, Nat.zero_add, List.length_append]
  have okU2 : okSt (T2 ++ [.cells m2.cells, .cells Mf.none.cells]) := by
    have := okM (Mf.none_ok _) okU
    simpa only [List.append_assoc, List.cons_append, List.nil_append] using this
  refine callK_intro (y22f (by rw [List.length_take, len1]; decide) okU2 ok3) ?_
  have sN2 := stM (st := T2) (l := [.cells m2.cells, .cells Mf.none.cells, .cells [.int .i64 0, .int .i64 0, .int .i64 0, .int .i64 0, .int .i64 0, .int .i64 0, .int .i64 0, .nilS]]) (i := 2) rfl rfl (Mf.none_ok [])
  simp only [List.set_cons_zero, List.set_cons_succ] at sN2
  simp (maxSteps := 2000000) (disch := first | omega | simp only [List.length_append, List.length_cons, List.length_nil, List.length_map] <;> omega) only [sN2, rN, gT2, r1, hl8, ht8, ev_ldA, List.drop_zero, List.append_assoc, List.set_cons_zero, List.set_cons_succ, apO_some, flg_int, flg_agg, exc_agg, swp_seq, swp_reg, seqK_n, evK_some, appK_eq, appC_eq, srun_nil, srun_cons, stepK_call, sk_mv, sk_give, sk_load, sk_store, sk_alloc, sk_ext, get_mk, raw_slot, put_some, put_none, wb_nil, ev_mv, ev_give, ev_ext, ev_alloc, ro_int, ro_agg, ro_tup, ro2_int, got_agg, pubs, pubsFrom, List.map_cons, List.map_nil, List.getD_cons_zero, List.getD_cons_succ, List.getElem?_cons_zero, List.getElem?_cons_succ, List.length_cons, List.length_nil, List.cons_append, List.nil_append, Nat.reduceAdd, Bool.false_eq_true, Option.map_some, ↓reduceIte, Nat.zero_add, List.length_append, Nat.le_refl]
  have okT3 : okSt (T2 ++ [.cells m2.cells, .cells Mf.none.cells, .cells Mf.none.cells]) := by
    have := okM (Mf.none_ok _) okU2
    simpa only [List.append_assoc, List.cons_append, List.nil_append] using this
  have okmC : m1.ok (T2 ++ [.cells m2.cells, .cells Mf.none.cells, .cells Mf.none.cells]) := okmB.mono _
  have okm2C : m2.ok (T2 ++ [.cells m2.cells, .cells Mf.none.cells, .cells Mf.none.cells]) := okm2.mono _
  have gT3 : ∀ x, ((T2 ++ [.cells m2.cells, .cells Mf.none.cells, .cells Mf.none.cells]) ++ x)[i1]? = some (.cells m1.cells) := fun x => by rw [List.append_assoc]; exact gT2 _
  have gM3 : ∀ x, ((T2 ++ [.cells m2.cells, .cells Mf.none.cells, .cells Mf.none.cells]) ++ x)[T2.length]? = some (.cells m2.cells) := fun x => by rw [List.append_assoc, getA0]; rfl
  have eT3 : ∃ x, T2 ++ [.cells m2.cells, .cells Mf.none.cells, .cells Mf.none.cells] = st ++ x := by obtain ⟨y, rfl⟩ := eT2; exact ⟨y ++ _, List.append_assoc ..⟩
  generalize T2 ++ [.cells m2.cells, .cells Mf.none.cells, .cells Mf.none.cells] = T3 at okT3 okmC okm2C gT3 gM3 eT3 ⊢
  generalize T2.length = i3 at gM3 ⊢
  have k12 := y12 okmC hcc okT3
  have okm4 := cpM_ok okmC
  have okT4 := cpS_okSt okmC okT3
  have pl4 := (sameM_iff _ _).2 (cpM_pl T3 m1)
  obtain ⟨X4, hX4⟩ := cpS_app T3 m1
  have okmD : m1.ok (cpS T3 m1) := by rw [hX4]; exact okmC.mono _
  have okm2D : m2.ok (cpS T3 m1) := by rw [hX4]; exact okm2C.mono _
  have gT4 : ∀ x, (cpS T3 m1 ++ x)[i1]? = some (.cells m1.cells) := fun x => by rw [hX4, List.append_assoc]; exact gT3 _
  have gM4 : ∀ x, (cpS T3 m1 ++ x)[i3]? = some (.cells m2.cells) := fun x => by rw [hX4, List.append_assoc]; exact gM3 _
  have eT4 : ∃ x, cpS T3 m1 = st ++ x := by obtain ⟨y, rfl⟩ := eT3; exact ⟨y ++ X4, by rw [hX4, List.append_assoc]⟩
  generalize cpS T3 m1 = T4 at k12 okm4 okT4 okmD okm2D gT4 gM4 eT4
  generalize cpM T3 m1 = m4 at k12 okm4 pl4
  refine callK_intro k12 ?_
  have r4 := ro1_mf okm4
  have l4 : m4.cells.length = 8 := rfl
  have t4 : m4.cells.take 8 = m4.cells := rfl
  have sM4 := stM (st := T4) (l := [.cells [.int .i64 0, .int .i64 0, .int .i64 0, .int .i64 0, .int .i64 0, .int .i64 0, .int .i64 0, .nilS]]) (i := 0) rfl rfl okm4
  simp only [List.set_cons_zero, Nat.add_zero] at sM4
  simp (maxSteps := 2000000) (disch := first | omega | simp only [List.length_append, List.length_cons, List.length_nil, List.length_map] <;> omega) only [sM4, gT4, r1, hl8, ht8, ev_ldA, List.drop_zero, List.set_cons_zero, List.set_cons_succ, apO_some, exc_agg, swp_seq, swp_reg, seqK_n, evK_some, appK_eq, appC_eq, srun_nil, srun_cons, stepK_call, sk_load, sk_store, sk_alloc, get_mk, raw_slot, put_some, put_none, wb_nil, ev_alloc, ro_agg, got_agg, pubs, pubsFrom, List.map_cons, List.map_nil, List.getD_cons_zero, List.getD_cons_succ, Bool.false_eq_true, ↓reduceIte, Nat.zero_add, Nat.le_refl]
  have okV : okSt (T4 ++ [.cells m4.cells]) := okM okm4 okT4
  have k16 := y16 (okmD.mono [.cells m4.cells]) fB okV
  rw [hch] at k16
  refine callK_intro k16 ?_
  simp (maxSteps := 2000000) (disch := first | omega | simp only [List.length_append, List.length_cons, List.length_nil, List.length_map] <;> omega) only [chV_not (l := [8, 9]) (by simp), List.set_cons_zero, List.set_cons_succ, flg_excl, swp_seq, swp_reg, seqK_n, evK_some, appK_eq, appC_eq, srun_nil, srun_cons, stepK_call, sk_give, get_mk, raw_slot, put_some, wb_nil, wb_cons, ev_give, ro_excl, pubs, pubsFrom, List.map_cons, List.map_nil, List.getD_cons_zero, List.getD_cons_succ, List.getElem?_cons_zero, List.length_cons, List.length_nil, Nat.reduceAdd, ↓reduceIte, Nat.zero_add]
  have k26 := y26 (T4 ++ [.cells m4.cells])
  have e26 : (T4 ++ [Ob.cells m4.cells]).length + 1 = T4.length + 2 := by simp
  rw [e26] at k26
  refine callK_intro k26 ?_
  have sM5 := stM (st := T4) (l := [.cells m4.cells, .cells (mOne (.slo (T4.length + 2) 0 2)).cells, .cells oneP, .cells [.int .i64 0, .int .i64 0, .int .i64 0, .int .i64 0, .int .i64 0, .int .i64 0, .int .i64 0, .nilS]]) (i := 3) rfl rfl (mOne_ok (S := T4 ++ [.cells m4.cells, .cells (mOne (.slo (T4.length + 2) 0 2)).cells, .cells oneP]) (i := T4.length + 2) (by rw [getA]; rfl))
  simp only [List.set_cons_zero, List.set_cons_succ] at sM5
  have h7 : (mOne (.slo (T4.length + 2) 0 2)).cells[7]? = some (.slo (T4.length + 2) 0 2) := rfl
  have sP : ev (T4 ++ [.cells m4.cells, .cells (mOne (.slo (T4.length + 2) 0 2)).cells, .cells oneP, .cells (mOne (.slo (T4.length + 2) 0 2)).cells]) (.store 1 false) [.ptr (T4.length + 2) 2, .int .i64 64] = some (.undef, [], T4 ++ [.cells m4.cells, .cells (mOne (.slo (T4.length + 2) 0 2)).cells, .cells offP, .cells (mOne (.slo (T4.length + 2) 0 2)).cells]) := by
    rw [st_int, getA]
    show stP (some (.cells oneP)) _ _ _ _ = _
    rw [stP_some, if_pos (by decide), setA]; rfl
  simp (maxSteps := 2000000) (disch := first | omega | simp only [List.length_append, List.length_cons, List.length_nil, List.length_map] <;> omega) only [sM5, h7, sP, getA, ev_ldA, List.drop_zero, List.append_assoc, Nat.add_zero, List.set_cons_zero, List.set_cons_succ, ro_slo, sk_idxB, idxB_O, swp_seq, swp_reg, seqK_n, evK_some, appK_eq, appC_eq, srun_nil, srun_cons, sk_fld, sk_load, sk_store, sk_alloc, get_mk, raw_slot, raw_lit, put_some, put_none, wb_nil, ev_fld, ev_alloc, ev_ldP, ldP_some, ro_agg, List.map_cons, List.map_nil, List.getD_cons_zero, List.getD_cons_succ, List.getElem?_cons_zero, List.getElem?_cons_succ, List.length_cons, List.length_nil, List.cons_append, List.nil_append, Nat.reduceAdd, Option.map_some, Nat.zero_mul, Nat.zero_add, Int.reduceToNat, List.length_append]
  have okT5 : okSt (T4 ++ [Ob.cells m4.cells, .cells (mOne (.slo (T4.length + 2) 0 2)).cells, .cells offP, .cells (mOne (.slo (T4.length + 2) 0 2)).cells]) := by
    have := okSt_appL (st := T4 ++ [Ob.cells m4.cells]) (x := [.cells (mOne (.slo (T4.length + 2) 0 2)).cells, .cells offP, .cells (mOne (.slo (T4.length + 2) 0 2)).cells]) okV (by
      simp only [List.length_append, List.length_cons, List.length_nil, List.all_cons, List.all_nil, Bool.and_true, obOk, mOne_cells, idOks, idOk, Bool.true_and, Bool.and_eq_true, decide_eq_true_eq]
      exact ⟨by omega, rfl, by omega⟩)
    simpa only [List.append_assoc, List.cons_append, List.nil_append] using this
  have ok1E := okmD.mono [Ob.cells m4.cells, .cells (mOne (.slo (T4.length + 2) 0 2)).cells, .cells offP, .cells (mOne (.slo (T4.length + 2) 0 2)).cells]
  have ok2E := okm2D.mono [Ob.cells m4.cells, .cells (mOne (.slo (T4.length + 2) 0 2)).cells, .cells offP, .cells (mOne (.slo (T4.length + 2) 0 2)).cells]
  have ok4E := okm4.mono [Ob.cells m4.cells, .cells (mOne (.slo (T4.length + 2) 0 2)).cells, .cells offP, .cells (mOne (.slo (T4.length + 2) 0 2)).cells]
  have ok5E : (mOff (.slo (T4.length + 2) 0 2)).ok (T4 ++ [Ob.cells m4.cells, .cells (mOne (.slo (T4.length + 2) 0 2)).cells, .cells offP, .cells (mOne (.slo (T4.length + 2) 0 2)).cells]) := mOff_ok (by rw [getA]; rfl)
  have gT5 := gT4 [Ob.cells m4.cells, .cells (mOne (.slo (T4.length + 2) 0 2)).cells, .cells offP, .cells (mOne (.slo (T4.length + 2) 0 2)).cells]
  have gM5 := gM4 [Ob.cells m4.cells, .cells (mOne (.slo (T4.length + 2) 0 2)).cells, .cells offP, .cells (mOne (.slo (T4.length + 2) 0 2)).cells]
  have gA5 : (T4 ++ [Ob.cells m4.cells, .cells (mOne (.slo (T4.length + 2) 0 2)).cells, .cells offP, .cells (mOne (.slo (T4.length + 2) 0 2)).cells])[T4.length]? = some (.cells m4.cells) := by rw [getA0]; rfl
  have gO5 : (T4 ++ [Ob.cells m4.cells, .cells (mOne (.slo (T4.length + 2) 0 2)).cells, .cells offP, .cells (mOne (.slo (T4.length + 2) 0 2)).cells])[T4.length + 3]? = some (.cells (mOff (.slo (T4.length + 2) 0 2)).cells) := by rw [getA]; rfl
  have eT5 : ∃ x, T4 ++ [Ob.cells m4.cells, .cells (mOne (.slo (T4.length + 2) 0 2)).cells, .cells offP, .cells (mOne (.slo (T4.length + 2) 0 2)).cells] = st ++ x := by obtain ⟨y, rfl⟩ := eT4; exact ⟨y ++ _, List.append_assoc ..⟩
  generalize T4 ++ [Ob.cells m4.cells, .cells (mOne (.slo (T4.length + 2) 0 2)).cells, .cells offP, .cells (mOne (.slo (T4.length + 2) 0 2)).cells] = T5 at okT5 ok1E ok2E ok4E ok5E gT5 gM5 gA5 gO5 eT5 ⊢
  have r5 := ro1_mf ok5E
  have l5 : (mOff (.slo (T4.length + 2) 0 2)).cells.length = 8 := rfl
  have t5 : (mOff (.slo (T4.length + 2) 0 2)).cells.take 8 = (mOff (.slo (T4.length + 2) 0 2)).cells := rfl
  have f5 : (mOff (.slo (T4.length + 2) 0 2)).fit := mOne_fit (.slo (T4.length + 2) 0 2)
  have pR5 := rt2 (.slo (T4.length + 2) 0 2)
  have pS5 := hso (.slo (T4.length + 2) 0 2)
  generalize mOff (.slo (T4.length + 2) 0 2) = m5 at r5 l5 t5 f5 pR5 pS5 ok5E gO5
  generalize T4.length + 3 = i5 at gO5 ⊢
  generalize T4.length = i4 at gA5 ⊢
  have k1 := y18 ok1E fF okT5
  have k2 := y18 ok5E f5 okT5
  have k3 : O214 18 [.agg [.int .i64 0, .int .i64 0, .int .i64 0, .int .i64 0, .int .i64 0, .int .i64 0, .int .i64 0, .nilS]] T5 (.bool false) T5 := y18 (m := Mf.none) (Mf.none_ok _) (by unfold Mf.fit Mf.none; exact ⟨by decide, by decide⟩) okT5
  have k4 := y14 ok2E ok1E okT5
  have k5 := y14 ok4E ok1E okT5
  have k6 := y14 ok1E ok5E okT5
  have k7 : O214 20 [.agg [.int .i64 1, .int .i64 2, .int .i64 0, .int .i64 0, .int .i64 0, .int .i64 0, .int .i64 0, .nilS]] T5 (.str (bytesF mTwo)) T5 := y20 (m := mTwo) ⟨RowAt.nil, by decide, by simp [mTwo]⟩ ⟨by decide, by simp [mTwo]⟩ okT5
  rw [hrt] at k1
  rw [pR5] at k2
  rw [hs2] at k4
  rw [pl4] at k5
  rw [pS5] at k6
  have hI : ∀ s, ev s (.idxB 1) [.sl (isv [8, 9]) 2 .ro, .int .i64 1] = some (.elv (isv [8, 9]) 1, [], s) := fun s => rfl
  have hL : ∀ s, ev s (.load 1 false) [.elv (isv [8, 9]) 1] = some (.int .i64 9, [], s) := fun s => rfl
  simp (maxSteps := 2000000) (disch := first | omega | simp only [List.length_append, List.length_cons, List.length_nil, List.length_map] <;> omega) only [gT5, r1, hl8, ht8, List.set_cons_zero, List.set_cons_succ, apO_some, exc_agg, evK_some, appK_eq, srun_cons, stepK_call, get_mk, raw_slot, put_some, wb_nil, got_agg, pubs, pubsFrom, List.map_cons, List.map_nil, List.getD_cons_zero, List.getD_cons_succ, Bool.false_eq_true, ↓reduceIte, Nat.le_refl]
  refine callK_intro k1 ?_
  simp (maxSteps := 2000000) (disch := first | omega | simp only [List.length_append, List.length_cons, List.length_nil, List.length_map] <;> omega) only [gT5, gM5, r1, r2, hl8, ht8, l2, t2, ev_ldA, List.drop_zero, List.set_cons_zero, List.set_cons_succ, apO_some, exc_int, exc_agg, evK_some, appK_eq, appC_eq, grd_t, srun_cons, stepK_call, stepK_grd, sk_mv, sk_take, sk_pick, sk_bin, sk_load, get_mk, raw_slot, raw_lit, put_some, wb_nil, ev_mv, ev_take, ev_pick, bin_eql, ro_bool, ro_agg, got_int, got_agg, pubs, pubsFrom, List.map_cons, List.map_nil, List.getD_cons_zero, List.getD_cons_succ, Bool.false_eq_true, ↓reduceIte, Nat.zero_add, beq_self_eq_true, Nat.le_refl]
  refine callK_intro k4 ?_
  simp (maxSteps := 2000000) (disch := first | omega | simp only [List.length_append, List.length_cons, List.length_nil, List.length_map] <;> omega) only [gT5, gA5, r1, r4, hl8, ht8, l4, t4, ev_ldA, List.drop_zero, List.set_cons_zero, List.set_cons_succ, apO_some, exc_int, exc_agg, evK_some, appK_eq, appC_eq, grd_t, srun_cons, stepK_call, stepK_grd, sk_mv, sk_take, sk_pick, sk_bin, sk_load, get_mk, raw_slot, raw_lit, put_some, wb_nil, ev_mv, ev_take, ev_pick, bin_eql, ro_bool, ro_agg, got_int, got_agg, pubs, pubsFrom, List.map_cons, List.map_nil, List.getD_cons_zero, List.getD_cons_succ, Bool.false_eq_true, ↓reduceIte, Nat.zero_add, beq_self_eq_true, Nat.le_refl]
  refine callK_intro k5 ?_
  simp (maxSteps := 2000000) (disch := first | omega | simp only [List.length_append, List.length_cons, List.length_nil, List.length_map] <;> omega) only [hI, hL, gO5, r5, l5, t5, ev_ldA, List.drop_zero, List.set_cons_zero, List.set_cons_succ, pub_excl2, apO_some, exc_agg, exc_own, exc_excl, sk_idxB, evK_some, appK_eq, appC_eq, grd_t, srun_cons, stepK_call, stepK_grd, sk_mv, sk_take, sk_pick, sk_bin, sk_load, sk_lenL, get_mk, raw_slot, raw_lit, put_some, wb_nil, wb_cons, ev_mv, ev_take, ev_pick, ev_lenL, bin_eql, ro_bool, ro_agg, got_excl, got_own, got_agg, pubs, pubsFrom, List.map_cons, List.map_nil, List.getD_cons_zero, List.getD_cons_succ, List.getElem?_cons_zero, Bool.false_eq_true, ↓reduceIte, Nat.zero_add, beq_self_eq_true, Int.cast_ofNat_Int, Nat.le_refl]
  refine callK_intro k2 ?_
  simp (maxSteps := 2000000) (disch := first | omega | simp only [List.length_append, List.length_cons, List.length_nil, List.length_map] <;> omega) only [List.set_cons_zero, List.set_cons_succ, exc_agg, evK_some, appK_eq, appC_eq, grd_t, srun_cons, stepK_call, stepK_grd, sk_mv, sk_pick, sk_un, sk_bld, get_mk, raw_slot, raw_lit, put_some, wb_nil, ev_mv, ev_pick, ev_not, ev_bld, ro_bool, ro1_int, ro1_nilS, got_agg, pubs, pubsFrom, List.map_cons, List.map_nil, List.getD_cons_zero, List.getD_cons_succ, List.length_nil, Bool.false_eq_true, Option.map_some, ↓reduceIte, List.zip_nil_right, fillV, Bool.not_false]
  refine callK_intro k3 ?_
  simp (maxSteps := 2000000) (disch := first | omega | simp only [List.length_append, List.length_cons, List.length_nil, List.length_map] <;> omega) only [gT5, gO5, r1, r5, hl8, ht8, l5, t5, ev_ldA, List.drop_zero, List.set_cons_zero, List.set_cons_succ, apO_some, exc_agg, evK_some, appK_eq, appC_eq, grd_t, srun_cons, stepK_call, stepK_grd, sk_mv, sk_pick, sk_un, sk_load, get_mk, raw_slot, raw_lit, put_some, wb_nil, ev_mv, ev_pick, ev_not, ro_bool, ro_agg, got_agg, pubs, pubsFrom, List.map_cons, List.map_nil, List.getD_cons_zero, List.getD_cons_succ, Bool.false_eq_true, ↓reduceIte, Nat.zero_add, Bool.not_false, Nat.le_refl]
  refine callK_intro k6 ?_
  simp (maxSteps := 2000000) (disch := first | omega | simp only [List.length_append, List.length_cons, List.length_nil, List.length_map] <;> omega) only [cv_int, cell_int, List.set_cons_zero, List.set_cons_succ, exc_int, exc_agg, evK_some, appK_eq, appC_eq, grd_t, srun_cons, stepK_call, stepK_grd, sk_mv, sk_pick, sk_un, sk_bld, get_mk, raw_slot, raw_lit, put_some, wb_nil, ev_mv, ev_pick, ev_not, ev_bld, ro_bool, ro1_int, ro1_nilS, got_int, got_agg, pubs, pubsFrom, List.map_cons, List.map_nil, List.getD_cons_zero, List.getD_cons_succ, List.length_cons, List.length_nil, Nat.reduceAdd, Nat.reduceLeDiff, and_true, Bool.false_eq_true, Option.map_some, ↓reduceIte, List.all_cons, List.all_nil, Bool.and_self, List.zip_cons_cons, List.zip_nil_right, fillV, wrCells, Nat.zero_add, Bool.not_false]
  refine callK_intro k7 ?_
  obtain ⟨y, rfl⟩ := eT5
  simp (maxSteps := 2000000) (disch := first | omega | simp only [List.length_append, List.length_cons, List.length_nil, List.length_map] <;> omega) only [len2, List.set_cons_zero, List.set_cons_succ, flg_bool, swp_ret, seqK_n, evK_some, appK_eq, appC_eq, grd_t, srun_nil, srun_cons, stepK_grd, fin_ret, sk_give, sk_pick, sk_bin, sk_lenS, get_mk, raw_slot, raw_lit, put_some, wb_nil, ev_give, ev_pick, ev_lenS, bin_eql, ro_bool, List.map_cons, List.map_nil, List.getD_cons_zero, List.getD_cons_succ, true_and, Bool.false_eq_true, ↓reduceIte, beq_self_eq_true, Int.cast_ofNat_Int]
  first | exact ⟨_, trim1 ho rfl⟩ | exact ⟨_, trim1 ho rfl, rfl⟩ | exact ⟨_, trim1 ho rfl, rfl, rfl⟩ | exact ⟨_, trim1 ho rfl, by simp, rfl⟩ | exact ⟨_, trim1 ho rfl, by simp⟩
def O215 : Orc := O214.add 10 (StC fun st args r => okSt st ∧ args = [] ∧ r = .bool true)
theorem s215 : Sound Tryd.prog O215 := s214.addS c10 (by kernel_rfl) (by
  rintro args r st ⟨ho, rfl, rfl⟩
  exact ⟨by simp [sf10], g10s st ho⟩)
end Go.Sh.F
namespace Go.Sh.F
open Go.PathLaw Go.Proofs
theorem jn_le : ∀ (l : List (List UInt8)), (∀ x ∈ l, x.length ≤ 12) → (jn l).length + 1 ≤ 13 * l.length + 1
  | [], _ => by simp [jn]
  | [x], h => by
    have := h x List.mem_cons_self
    simp [jn]; omega
  | x :: y :: r, h => by
    have h1 := h x List.mem_cons_self
    have h2 := jn_le (y :: r) (fun z hz => h z (List.mem_cons_of_mem _ hz))
    rw [jn_cons (by simp)]
    simp only [List.length_append, List.length_cons] at h2 ⊢
    omega
theorem right_len {s : List UInt8} (h : rightB s = true) : s.length ≤ 52 := by
  unfold rightB at h
  rw [Bool.and_eq_true, decide_eq_true_eq, List.all_eq_true] at h
  have h1 := jn_le (spl s) (fun x hx => by
    have := h.2 x hx
    unfold nameB at this
    simp only [Bool.and_eq_true, decide_eq_true_eq] at this
    exact this.1.1.1.2)
  rw [jn_spl] at h1
  omega
theorem num4_be4 {c : Nat} (h : c ≤ 4294967295) : W.num4 (W.be4 c) = c := by
  have e : ∀ k : Nat, (UInt8.ofNat k).toNat = k % 256 := fun k => by simp
  show (((0 * 256 + (UInt8.ofNat (c / 16777216)).toNat) * 256 + (UInt8.ofNat (c / 65536)).toNat) * 256 + (UInt8.ofNat (c / 256)).toNat) * 256 + (UInt8.ofNat c).toNat = c
  rw [e, e, e, e]; omega
def At (s : W.RdS) (r : List UInt8) : Prop := s.e = 0 ∧ s.p ≤ s.l.length ∧ s.l.drop s.p = r
theorem num_at {s : W.RdS} {c : Nat} {r : List UInt8} (h : At s (W.be4 c ++ r)) {most : Int} (h1 : (c : Int) ≤ most) (h2 : c ≤ 4294967295) : W.numF s most = ((c : Int), ⟨s.l, s.p + 4, 0⟩) ∧ At ⟨s.l, s.p + 4, 0⟩ r := by
  obtain ⟨l, p, e⟩ := s
  obtain ⟨he, hp, hd⟩ := h
  simp only at he hp hd ⊢
  subst he
  have hl : p + 4 ≤ l.length := by
    have := congrArg List.length hd
    rw [List.length_drop, List.length_append, W.be4_len] at this; omega
  have h4 : (l.take (p + 4)).drop p = W.be4 c := by
    rw [W.take_at, hd, List.take_left' (W.be4_len c)]
  refine ⟨?_, rfl, hl, ?_⟩
  · unfold W.numF
    rw [if_neg (by simp), if_neg (by simp only; omega)]
    simp only
    rw [h4, num4_be4 h2, if_neg (by omega)]
  · show l.drop (p + 4) = r
    rw [← List.drop_drop, hd, List.drop_left' (W.be4_len c)]
theorem clamp_id {n : Int} (h0 : 0 ≤ n) (h1 : n ≤ MX) : ((W.clampN n : Nat) : Int) = n ∧ W.clampN n ≤ 4294967295 := by
  have : n ≤ 4294967295 := h1
  unfold W.clampN
  rw [if_neg (by omega), if_neg (by omega)]
  omega
theorem nB_at {s : W.RdS} {n : Int} {r : List UInt8} (h : At s (nB n ++ r)) {most : Int} (h0 : 0 ≤ n) (h1 : n ≤ most) (h2 : n ≤ MX) : (W.numF s most).1 = n ∧ At (W.numF s most).2 r := by
  obtain ⟨c1, c2⟩ := clamp_id h0 h2
  obtain ⟨a, b⟩ := num_at (most := most) h (by omega) c2
  rw [a]; exact ⟨c1, b⟩
theorem nums_at : ∀ (ns : List Int) {s : W.RdS} {r : List UInt8}, At s (nsB ns ++ r) → (∀ n ∈ ns, 0 ≤ n ∧ n ≤ MX) → (numsF MX ns.length s).1 = ns ∧ At (numsF MX ns.length s).2 r
  | [], s, r, h, _ => ⟨rfl, h⟩
  | n :: ns, s, r, h, hn => by
    have h' : At s (nB n ++ (nsB ns ++ r)) := by
      unfold nsB at h ⊢
      rw [List.flatMap_cons, List.append_assoc] at h; exact h
    obtain ⟨h0, h1⟩ := hn n List.mem_cons_self
    obtain ⟨a, b⟩ := nB_at h' h0 h1 h1
    obtain ⟨c, d⟩ := nums_at ns b (fun m hm => hn m (List.mem_cons_of_mem _ hm))
    rw [List.length_cons, numsF]
    exact ⟨by rw [a, c], d⟩
theorem text_at {s : W.RdS} {x r : List UInt8} (h : At s (W.strB x ++ r)) {most : Int} (h1 : (x.length : Int) ≤ most) (h2 : x.length ≤ 16384) : (W.textF s most).1 = x ∧ At (W.textF s most).2 r := by
  rw [W.strB_eq, List.take_of_length_le h2, List.append_assoc] at h
  have hm : (x.length : Int) ≤ W.minI most 16384 := by unfold W.minI; split <;> omega
  obtain ⟨a, b1, b2, b3⟩ := num_at h hm (by omega)
  obtain ⟨l, p, e⟩ := s
  simp only at a b1 b2 b3
  have hl : p + 4 + x.length ≤ l.length := by
    have := congrArg List.length b3
    rw [List.length_drop, List.length_append] at this; omega
  unfold W.textF
  rw [a]
  simp only [ne_eq, not_true_eq_false, if_false, Int.toNat_natCast]
  rw [if_neg (by omega)]
  refine ⟨?_, rfl, hl, ?_⟩
  · show (l.take (p + 4 + x.length)).drop (p + 4) = x
    rw [W.take_at, b3, List.take_left]
  · show l.drop (p + 4 + x.length) = r
    rw [← List.drop_drop, b3, List.drop_left]
theorem wth_iff {most n : Int} : wth most n = true ↔ 0 ≤ n ∧ n ≤ most := by unfold wth; simp
theorem rightP_facts {p : Pc} (h : rightP p = true) : p.path.length ≤ 52 ∧ (0 ≤ p.size ∧ p.size ≤ MX) ∧ (0 ≤ p.dig ∧ p.dig ≤ MX) ∧ (0 ≤ p.cl ∧ p.cl ≤ MX) ∧ (0 ≤ p.cr ∧ p.cr ≤ MX) ∧ p.ch.length ≤ 10 ∧ ∀ n ∈ p.ch, 0 ≤ n ∧ n ≤ MX := by
  unfold rightP clockB at h
  simp only [Bool.and_eq_true] at h
  obtain ⟨⟨⟨h1, h2, h3⟩, _⟩, h4⟩ := h
  rw [wth_iff] at h2 h3
  have hM : MX = 4294967295 := rfl
  have a1 := right_len h1
  by_cases hh : p.has = true
  · rw [if_pos hh] at h4
    simp only [Bool.and_eq_true, beq_iff_eq, wth_iff, List.all_eq_true] at h4
    obtain ⟨⟨⟨b1, b2⟩, b3⟩, b4⟩ := h4
    have hc : countF p.size ≤ 10 := by
      unfold countF
      split
      · omega
      · rw [Int.tdiv_eq_ediv_of_nonneg (by omega)]; omega
    exact ⟨a1, ⟨b1.1, by omega⟩, b3, ⟨h2.1, by omega⟩, ⟨h3.1, by omega⟩, by omega, fun n hn => b4 n hn⟩
  · rw [if_neg hh] at h4
    simp only [Bool.and_eq_true, beq_iff_eq] at h4
    obtain ⟨⟨b1, b2⟩, b3⟩ := h4
    have e : p.ch = [] := List.eq_nil_of_length_eq_zero (by omega)
    exact ⟨a1, ⟨by omega, by omega⟩, ⟨by omega, by omega⟩, ⟨h2.1, by omega⟩, ⟨h3.1, by omega⟩, by rw [e]; decide, by rw [e]; simp⟩
theorem piece_at {s : W.RdS} {p : Pc} {r : List UInt8} (hp : rightP p = true) (h : At s (pieceB p ++ r)) (id : Nat) : (pcF id s).pl = p.pl ∧ At (pC s).2 r := by
  obtain ⟨f1, f2, f3, f4, f5, f6, f7⟩ := rightP_facts hp
  unfold pieceB at h
  rw [List.append_assoc] at h
  obtain ⟨t1, t2⟩ := text_at h (most := 52) (by omega) (by omega)
  have hh : (0 : Int) ≤ hasI p.has ∧ hasI p.has ≤ 1 := by unfold hasI; cases p.has <;> simp
  have h6 : At (pT s).2 (nB (hasI p.has) ++ (nsB [p.size, p.dig, p.cl, p.cr] ++ (nB (p.ch.length : Int) ++ (nsB p.ch ++ r)))) := by
    have e : nsB (sixI p) ++ nsB p.ch ++ r = nB (hasI p.has) ++ (nsB [p.size, p.dig, p.cl, p.cr] ++ (nB (p.ch.length : Int) ++ (nsB p.ch ++ r))) := by
      simp [nsB, sixI]
    rw [← e]; exact t2
  obtain ⟨a1, a2⟩ := nB_at (most := 1) h6 hh.1 hh.2 (by have : MX = 4294967295 := rfl; omega)
  obtain ⟨b1, b2⟩ := nums_at [p.size, p.dig, p.cl, p.cr] a2 (by
    intro n hn
    simp only [List.mem_cons, List.not_mem_nil, or_false] at hn
    rcases hn with rfl | rfl | rfl | rfl <;> assumption)
  obtain ⟨c1, c2⟩ := nB_at (most := 10) b2 (by omega) (by omega) (by have : MX = 4294967295 := rfl; omega)
  have hK : (pK s).1 = (p.ch.length : Int) := c1
  obtain ⟨d1, d2⟩ := nums_at p.ch c2 f7
  have hC : pC s = numsF MX p.ch.length (pK s).2 := by unfold pC; rw [hK, Int.toNat_natCast]
  have hC1 : (pC s).1 = p.ch := by rw [hC]; exact d1
  have hB1 : (pB s).1 = [p.size, p.dig, p.cl, p.cr] := b1
  have hA1 : (pA s).1 = hasI p.has := a1
  have hT1 : (pT s).1 = p.path := t1
  refine ⟨?_, by rw [hC]; exact d2⟩
  unfold pcF Pc.pl
  rw [hT1, hA1, hB1, hC1]
  have : (hasI p.has == 1) = p.has := by unfold hasI; cases p.has <;> rfl
  rw [this]; rfl
theorem pieces_at (b : Nat) (ps : List Pc) {s : W.RdS} {r : List UInt8} (hp : ∀ p ∈ ps, rightP p = true) (h : At s (ps.flatMap pieceB ++ r)) : ∀ k, k ≤ ps.length → (psF b k s).1.map Pc.pl = (ps.take k).map Pc.pl ∧ At (psF b k s).2 ((ps.drop k).flatMap pieceB ++ r)
  | 0, _ => ⟨rfl, h⟩
  | k + 1, hk => by
    obtain ⟨h1, h2⟩ := pieces_at b ps hp h k (by omega)
    have hd : ps.drop k = ps[k] :: ps.drop (k + 1) := List.drop_eq_getElem_cons (by omega)
    rw [hd, List.flatMap_cons, List.append_assoc] at h2
    obtain ⟨a, c⟩ := piece_at (hp _ (List.getElem_mem (by omega))) h2 (b + (3 * k + 2))
    refine ⟨?_, c⟩
    rw [psF, List.map_append, h1, ← List.take_append_getElem (show k < ps.length by omega), List.map_append]
    congr 1
    rw [List.map_cons, List.map_nil, List.map_cons, List.map_nil, a]
theorem rows_right {l : List Pc} (h : rows l = true) : ∀ p ∈ l, rightP p = true := by
  intro p hp
  obtain ⟨j, hj⟩ := List.getElem?_of_mem hp
  exact ((rows_iff l).1 h j p hj).1
theorem rightM_facts {m : Mf} (h : rightM m = true) : (∀ n ∈ headI m, 0 ≤ n ∧ n ≤ MX) ∧ m.ps.length ≤ 32 ∧ ∀ p ∈ m.ps, rightP p = true := by
  unfold rightM headM at h
  simp only [Bool.and_eq_true, decide_eq_true_eq, wth_iff] at h
  obtain ⟨⟨⟨⟨⟨⟨⟨⟨⟨h1, h2⟩, h3⟩, h4⟩, h5⟩, h6⟩, h7⟩, _⟩, h8⟩, h9⟩ := h
  have hM : MX = 4294967295 := rfl
  refine ⟨?_, h9, rows_right h8⟩
  intro n hn
  simp only [headI, List.mem_cons, List.not_mem_nil, or_false] at hn
  rcases hn with rfl | rfl | rfl | rfl | rfl | rfl | rfl | rfl <;> omega
theorem read_at {m : Mf} (h : rightM m = true) (more : List UInt8) (f : Fl) (b : Nat) : (mfR f b (bytesF m ++ more)).pl = m.pl ∧ At (rdP b (bytesF m ++ more)).2 more ∧ (rdP b (bytesF m ++ more)).2.l = bytesF m ++ more := by
  obtain ⟨h1, h2, h3⟩ := rightM_facts h
  have hlen : (rdP b (bytesF m ++ more)).2.l = bytesF m ++ more := by
    have hs0 : ∀ v, W.rdv v (bytesF m ++ more) → True := fun _ _ => trivial
    have hn : ∀ (mo : Int) (s : W.RdS), (W.numF s mo).2.l = s.l := by
      intro mo s; unfold W.numF; split
      · rfl
      · split
        · rfl
        · split <;> rfl
    have hns : ∀ (mo : Int) (k : Nat) (s : W.RdS), (numsF mo k s).2.l = s.l := by
      intro mo k
      induction k with
      | zero => intro s; rfl
      | succ k ih => intro s; show (numsF mo k (W.numF s mo).2).2.l = _; rw [ih, hn]
    have ht : ∀ (mo : Int) (s : W.RdS), (W.textF s mo).2.l = s.l := by
      intro mo s
      unfold W.textF
      have e1 := hn (W.minI mo 16384) s
      obtain ⟨n, s1, en⟩ : ∃ n s1, W.numF s (W.minI mo 16384) = (n, s1) := ⟨_, _, rfl⟩
      rw [en] at e1 ⊢
      simp only at e1 ⊢
      split
      · exact e1
      · split <;> exact e1
    have hc : ∀ s : W.RdS, (pC s).2.l = s.l := by
      intro s
      unfold pC; rw [hns]; unfold pK; rw [hn]; unfold pB; rw [hns]; unfold pA; rw [hn]; unfold pT; rw [ht]
    have hps : ∀ (k : Nat) (s : W.RdS), (psF b k s).2.l = s.l := by
      intro k
      induction k with
      | zero => intro s; rfl
      | succ k ih => intro s; show (pC (psF b k s).2).2.l = _; rw [hc, ih]
    unfold rdP; rw [hps]; unfold rdN; rw [hn]; unfold hdS; rw [hns]
  have h0 : At ⟨bytesF m ++ more, 0, 0⟩ (nsB [m.au, m.ve, m.pr, m.ep, m.ne, m.se, m.sh] ++ (nB (m.ps.length : Int) ++ (m.ps.flatMap pieceB ++ more))) := by
    refine ⟨rfl, Nat.zero_le _, ?_⟩
    show bytesF m ++ more = _
    simp [bytesF, headI, nsB]
  obtain ⟨a1, a2⟩ := nums_at [m.au, m.ve, m.pr, m.ep, m.ne, m.se, m.sh] h0 (fun n hn => h1 n (by simp only [headI, List.mem_cons, List.not_mem_nil, or_false] at hn ⊢; rcases hn with h | h | h | h | h | h | h <;> simp [h]))
  obtain ⟨b1, b2⟩ := nB_at (most := 32) a2 (by omega) (by omega) (by have : MX = 4294967295 := rfl; omega)
  have hN : (rdN (bytesF m ++ more)).1 = (m.ps.length : Int) := b1
  obtain ⟨c1, c2⟩ := pieces_at b m.ps h3 b2 m.ps.length (Nat.le_refl _)
  rw [List.take_length] at c1
  rw [List.drop_length, List.flatMap_nil, List.nil_append] at c2
  have hP : rdP b (bytesF m ++ more) = psF b m.ps.length (rdN (bytesF m ++ more)).2 := by unfold rdP; rw [hN, Int.toNat_natCast]
  refine ⟨?_, by rw [hP]; exact c2, hlen⟩
  have hH : (hdS (bytesF m ++ more)).1 = [m.au, m.ve, m.pr, m.ep, m.ne, m.se, m.sh] := a1
  unfold mfR Mf.pl
  rw [hH, hP]
  simp only [List.getD_cons_zero, List.getD_cons_succ]
  rw [show ((psF b m.ps.length (rdN (bytesF m ++ more)).2).1.map Pc.pl) = m.ps.map Pc.pl from c1]
theorem endF_at {s : W.RdS} {r : List UInt8} (h : At s r) : ((W.endF s).e == 0) = r.isEmpty := by
  obtain ⟨h1, h2, h3⟩ := h
  have hl := congrArg List.length h3
  rw [List.length_drop] at hl
  unfold W.endF
  by_cases hp : s.p < s.l.length
  · rw [if_pos ⟨hp, h1⟩]
    cases r with
    | nil => simp at hl; omega
    | cons => rfl
  · rw [if_neg (fun k => hp k.1)]
    have : r = [] := List.eq_nil_of_length_eq_zero (by omega)
    rw [this, h1]; rfl
theorem okR_at {m : Mf} (h : rightM m = true) (more : List UInt8) (b : Nat) : okR b (bytesF m ++ more) = more.isEmpty := by
  obtain ⟨h1, h2, h3⟩ := read_at h more .ro b
  unfold okR
  rw [endF_at h2]
  have : rightM (mfR .ro b (bytesF m ++ more)) = true := by rw [← rightM_pl, h1, rightM_pl, h]
  rw [this, Bool.and_true]
end Go.Sh.F
namespace Go.Sh.F
open Go.PathLaw Go.Proofs
def Wr (s t : W.RdS) (w : List UInt8) : Prop := t.p ≤ t.l.length ∧ t.l = s.l ∧ (t.e = 0 → s.e = 0 ∧ s.l.take t.p = s.l.take s.p ++ w)
theorem Wr.trans {s t u : W.RdS} {w x : List UInt8} (h : Wr s t w) (k : Wr t u x) : Wr s u (w ++ x) := by
  obtain ⟨h1, h2, h3⟩ := h
  obtain ⟨k1, k2, k3⟩ := k
  refine ⟨k1, k2.trans h2, fun he => ?_⟩
  obtain ⟨a, b⟩ := k3 he
  obtain ⟨c, d⟩ := h3 a
  refine ⟨c, ?_⟩
  rw [h2] at b
  rw [b, d, List.append_assoc]
theorem num_wr {s : W.RdS} (hp : s.p ≤ s.l.length) (most : Int) : Wr s (W.numF s most).2 (nB (W.numF s most).1) := by
  obtain ⟨l, p, e⟩ := s
  obtain ⟨k, p', e', h1, h2, h3, h4⟩ := W.numF_spec2 l p e most hp
  rw [h1]
  refine ⟨h2, rfl, fun he => ?_⟩
  simp only at he hp ⊢
  by_cases h0 : e = 0
  · obtain ⟨_, a, _, b⟩ := h4 h0 he
    refine ⟨h0, ?_⟩
    rw [b]; unfold nB; rw [W.clampN_nat k a]
  · exact absurd ((h3 h0).1 ▸ he) h0
theorem nums_wr (most : Int) : ∀ (n : Nat) {s : W.RdS}, s.p ≤ s.l.length → Wr s (numsF most n s).2 (nsB (numsF most n s).1)
  | 0, s, hp => ⟨hp, rfl, fun he => ⟨he, by simp [numsF, nsB]⟩⟩
  | n + 1, s, hp => by
    have h1 := num_wr hp most
    have h2 := nums_wr most n h1.1
    have := h1.trans h2
    rw [numsF]
    unfold nsB at this ⊢
    rw [List.flatMap_cons]; exact this
theorem text_wr {s : W.RdS} (hp : s.p ≤ s.l.length) (most : Int) : Wr s (W.textF s most).2 (W.strB (W.textF s most).1) := by
  obtain ⟨l, p, e⟩ := s
  obtain ⟨x, p', e', h1, h2, h3, h4⟩ := W.textF_spec2 l p e most hp
  rw [h1]
  refine ⟨h2, rfl, fun he => ?_⟩
  simp only at he hp ⊢
  by_cases h0 : e = 0
  · obtain ⟨_, _, b⟩ := h4 h0 he
    exact ⟨h0, b⟩
  · exact absurd ((h3 h0).1 ▸ he) h0
theorem nsB_cons (n : Int) (l : List Int) : nsB (n :: l) = nB n ++ nsB l := by unfold nsB; rw [List.flatMap_cons]
theorem nsB_app (a b : List Int) : nsB (a ++ b) = nsB a ++ nsB b := by unfold nsB; rw [List.flatMap_append]
theorem list4 {l : List Int} (h : l.length = 4) : [l.getD 0 0, l.getD 1 0, l.getD 2 0, l.getD 3 0] = l := by
  match l, h with
  | [a, b, c, d], _ => rfl
theorem list7 {l : List Int} (h : l.length = 7) : [l.getD 0 0, l.getD 1 0, l.getD 2 0, l.getD 3 0, l.getD 4 0, l.getD 5 0, l.getD 6 0] = l := by
  match l, h with
  | [a, b, c, d, e, f, g], _ => rfl
theorem numsF_len (most : Int) : ∀ (n : Nat) (s : W.RdS), (numsF most n s).1.length = n
  | 0, s => rfl
  | n + 1, s => by rw [numsF, List.length_cons, numsF_len most n]
theorem piece_wr {s : W.RdS} (hp : s.p ≤ s.l.length) (id : Nat) : Wr s (pC s).2 (pieceB (pcF id s)) := by
  have h1 := text_wr hp 52
  have h2 := num_wr h1.1 1
  have h3 := nums_wr MX 4 h2.1
  have h4 := num_wr h3.1 10
  have h5 := nums_wr MX (W.numF (numsF MX 4 (W.numF (W.textF s 52).2 1).2).2 10).1.toNat h4.1
  have h := (((h1.trans h2).trans h3).trans h4).trans h5
  have hT : pT s = W.textF s 52 := rfl
  have hA : pA s = W.numF (pT s).2 1 := rfl
  have hB : pB s = numsF MX 4 (pA s).2 := rfl
  have hK : pK s = W.numF (pB s).2 10 := rfl
  have hC : pC s = numsF MX (pK s).1.toNat (pK s).2 := rfl
  rw [← hT, ← hA, ← hB, ← hK, ← hC] at h
  have e : pieceB (pcF id s) = W.strB (pT s).1 ++ nB (pA s).1 ++ nsB (pB s).1 ++ nB (pK s).1 ++ nsB (pC s).1 := by
    obtain ⟨ka, a1, a2⟩ := numF_le (s := (pT s).2) (most := 1) (by decide) h1.1
    obtain ⟨kk, k1, k2⟩ := numF_le (s := (pB s).2) (most := 10) (by decide) h3.1
    have hasE : hasI ((pA s).1 == 1) = (pA s).1 := by
      have : (pA s).1 = (ka : Int) := a1
      rw [this]
      have : ka = 0 ∨ ka = 1 := by omega
      rcases this with rfl | rfl <;> rfl
    have chE : ((pC s).1.length : Int) = (pK s).1 := by
      rw [hC, numsF_len]
      have : (pK s).1 = (kk : Int) := k1
      rw [this, Int.toNat_natCast]
    have l4 := list4 (l := (pB s).1) (by rw [hB, numsF_len])
    unfold pieceB sixI pcF
    simp only [hasE, chE]
    rw [nsB_cons, show [(pB s).1.getD 0 0, (pB s).1.getD 1 0, (pB s).1.getD 2 0, (pB s).1.getD 3 0, (pK s).1] = [(pB s).1.getD 0 0, (pB s).1.getD 1 0, (pB s).1.getD 2 0, (pB s).1.getD 3 0] ++ [(pK s).1] from rfl, nsB_app, l4, nsB_cons]
    simp [nsB]
  rw [e]; exact h
theorem pieces_wr (b : Nat) : ∀ (k : Nat) {s : W.RdS}, s.p ≤ s.l.length → Wr s (psF b k s).2 ((psF b k s).1.flatMap pieceB)
  | 0, s, hp => ⟨hp, rfl, fun he => ⟨he, by simp [psF]⟩⟩
  | k + 1, s, hp => by
    have h1 := pieces_wr b k hp
    have h2 := piece_wr h1.1 (b + (3 * k + 2))
    have := h1.trans h2
    rw [psF, List.flatMap_append, List.flatMap_cons, List.flatMap_nil, List.append_nil]
    exact this
theorem read_wr {b : Nat} {x : List UInt8} (h : okR b x = true) (f : Fl) : bytesF (mfR f b x) = x ∧ rightM (mfR f b x) = true := by
  unfold okR at h
  rw [Bool.and_eq_true] at h
  have hr : rightM (mfR f b x) = true := by
    have : rightM (mfR f b x) = rightM (mfR .ro b x) := by rw [← rightM_pl, ← rightM_pl (mfR .ro b x)]; rfl
    rw [this]; exact h.2
  refine ⟨?_, hr⟩
  have h1 := nums_wr MX 7 (s := ⟨x, 0, 0⟩) (Nat.zero_le _)
  have h2 := num_wr h1.1 32
  obtain ⟨kk, k1, k2⟩ := numF_le (s := (hdS x).2) (most := 32) (by decide) h1.1
  have h3 := pieces_wr b (rdN x).1.toNat h2.1
  have hw := (h1.trans h2).trans h3
  have hP : rdP b x = psF b (rdN x).1.toNat (rdN x).2 := rfl
  have hN : rdN x = W.numF (hdS x).2 32 := rfl
  have hH : hdS x = numsF MX 7 ⟨x, 0, 0⟩ := rfl
  rw [← hH, ← hN, ← hP] at hw
  have hE := h.1
  rw [beq_iff_eq] at hE
  obtain ⟨w1, w2, w3⟩ := hw
  have hend : (rdP b x).2.e = 0 ∧ x.length ≤ (rdP b x).2.p := by
    unfold W.endF at hE
    by_cases hq : (rdP b x).2.p < (rdP b x).2.l.length ∧ (rdP b x).2.e = 0
    · rw [if_pos hq] at hE; simp at hE
    · rw [if_neg hq] at hE
      refine ⟨hE, ?_⟩
      have w2' : (rdP b x).2.l = x := w2
      rw [w2'] at hq
      omega
  obtain ⟨_, w4⟩ := w3 hend.1
  have w5 : x = nsB (hdS x).1 ++ nB (rdN x).1 ++ (rdP b x).1.flatMap pieceB := by
    have : x.take (rdP b x).2.p = x.take 0 ++ (nsB (hdS x).1 ++ nB (rdN x).1 ++ (rdP b x).1.flatMap pieceB) := w4
    rw [List.take_of_length_le hend.2, List.take_zero, List.nil_append] at this
    exact this
  have l7 := list7 (l := (hdS x).1) (by rw [hH, numsF_len])
  have hlen : ((rdP b x).1.length : Int) = (rdN x).1 := by
    rw [hP, psF_len]
    have : (rdN x).1 = (kk : Int) := k1
    rw [this, Int.toNat_natCast]
  conv => rhs; rw [w5]
  unfold bytesF headI mfR
  simp only [hlen]
  rw [show [(hdS x).1.getD 0 0, (hdS x).1.getD 1 0, (hdS x).1.getD 2 0, (hdS x).1.getD 3 0, (hdS x).1.getD 4 0, (hdS x).1.getD 5 0, (hdS x).1.getD 6 0, (rdN x).1] = [(hdS x).1.getD 0 0, (hdS x).1.getD 1 0, (hdS x).1.getD 2 0, (hdS x).1.getD 3 0, (hdS x).1.getD 4 0, (hdS x).1.getD 5 0, (hdS x).1.getD 6 0] ++ [(rdN x).1] from rfl, nsB_app, l7]
  simp [nsB]
theorem okR_cut {m : Mf} (h : rightM m = true) {k : Nat} (hk : k < (bytesF m).length) (b : Nat) : okR b ((bytesF m).take k) = false := by
  rw [Bool.eq_false_iff]
  intro ht
  obtain ⟨w1, w2⟩ := read_wr ht .ro
  have h1 := okR_at w2 ((bytesF m).drop k) b
  rw [w1, List.take_append_drop] at h1
  have h2 := okR_at h [] b
  rw [List.append_nil] at h2
  rw [h1] at h2
  have : (bytesF m).drop k = [] := by simpa using h2
  have := congrArg List.length this
  rw [List.length_drop, List.length_nil] at this
  omega
theorem bytesF_pl (m : Mf) : bytesF m.pl = bytesF m := by
  unfold bytesF headI Mf.pl
  simp only [List.length_map, List.flatMap_map]; rfl
theorem bytes_same {m o : Mf} (hm : rightM m = true) (ho : rightM o = true) : (bytesF m == bytesF o) = sameM m o := by
  rw [Bool.eq_iff_iff, beq_iff_eq, sameM_iff]
  constructor
  · intro h
    have h1 := (read_at hm [] .ro 0).1
    have h2 := (read_at ho [] .ro 0).1
    rw [h] at h1
    exact h1.symm.trans h2
  · intro h
    rw [← bytesF_pl m, h, bytesF_pl]
end Go.Sh.F
namespace Go.Sh.F
open Go.PathLaw Go.Proofs
theorem z10 {st : List Ob} (ho : okSt st) : O215 10 [] st (.bool true) st := .inr ⟨rfl, rfl, ho, rfl, rfl⟩
theorem z11 {m : Mf} {st : List Ob} (h : m.ok st) (ho : okSt st) : O215 11 [.agg m.cells] st (.bool (fewM m)) st := (by repeat first | exact Or.inr ⟨rfl, rfl, m, h, ho, rfl, rfl⟩ | refine Or.inl ?_)
theorem z18 {m : Mf} {st : List Ob} (h : m.ok st) (hf : m.fit) (ho : okSt st) : O215 18 [.agg m.cells] st (.bool (rightM m)) st := .inl (y18 h hf ho)
theorem z20 {m : Mf} {st : List Ob} (h : m.ok st) (hf : fitB m) (ho : okSt st) : O215 20 [.agg m.cells] st (.str (bytesF m)) st := .inl (y20 h hf ho)
theorem z22 {x : List UInt8} {st : List Ob} (hx : x.length ≤ 268435456) (ho : okSt st) : O215 22 [.str x] st (.tup [.agg (rdM st x).cells, .int .i64 (rdC st x)]) (rdT st x) := .inl (y22 hx ho)
theorem z22f {x : List UInt8} {st : List Ob} (hx : x.length ≤ 268435456) (ho : okSt st) (hb : okR (st.length + 3) x = false) : O215 22 [.str x] st (.tup [.agg Mf.none.cells, .int .i64 4]) st := by
  have := z22 hx ho
  have e1 : rdM st x = Mf.none := by unfold rdM; rw [hb]; rfl
  have e2 : rdC st x = 4 := by unfold rdC; rw [hb]; rfl
  have e3 : rdT st x = st := by unfold rdT; rw [hb]; rfl
  rwa [e1, e2, e3] at this
theorem z22t {x : List UInt8} {st : List Ob} (hx : x.length ≤ 268435456) (ho : okSt st) (hb : okR (st.length + 3) x = true) :
    ∃ (m : Mf) (X : List Ob), O215 22 [.str x] st (.tup [.agg m.cells, .int .i64 0]) (st ++ X) ∧ m.ok (st ++ X) ∧ okSt (st ++ X) ∧ m.fit ∧ fitB m ∧ rightM m = true ∧ bytesF m = x ∧ m.pl = (mfR .ro 0 x).pl := by
  have := z22 hx ho
  obtain ⟨a1, a2, a3, a4⟩ := rdM_ok hx ho
  obtain ⟨X, hX⟩ := rdT_ext st x
  have e1 : rdM st x = mfR .ro (st.length + 3) x := by unfold rdM; rw [hb]; rfl
  have e2 : rdC st x = 0 := by unfold rdC; rw [hb]; rfl
  obtain ⟨w1, w2⟩ := read_wr hb .ro
  rw [e2, hX] at this
  rw [hX] at a1 a2
  refine ⟨rdM st x, X, this, a1, a2, a3, a4, by rw [e1]; exact w2, by rw [e1]; exact w1, ?_⟩
  rw [e1]
  obtain ⟨p1, _⟩ := read_at w2 [] .ro 0
  rw [w1, List.append_nil] at p1
  exact p1.symm
theorem z14 {a b : Mf} {st : List Ob} (ha : a.ok st) (hb : b.ok st) (ho : okSt st) : O215 14 [.agg a.cells, .agg b.cells] st (.bool (sameM a b)) st := .inl (y14 ha hb ho)
theorem few_facts {m : Mf} (h : fewM m = true) : m.ps.length ≤ 60 ∧ ∀ p ∈ m.ps, p.path.length ≤ 200 ∧ p.ch.length ≤ 30 := by
  unfold fewM at h
  simp only [Bool.and_eq_true, decide_eq_true_eq, List.all_eq_true] at h
  exact h
theorem few_fitB {m : Mf} (h : fewM m = true) : fitB m := by
  obtain ⟨h1, h2⟩ := few_facts h
  exact ⟨by omega, fun p hp => by have := (h2 p hp).2; omega⟩
theorem few_bytes {m : Mf} (h : fewM m = true) : (bytesF m).length ≤ 65536 := by
  obtain ⟨h1, h2⟩ := few_facts h
  have : ∀ l : List Pc, (∀ p ∈ l, p.path.length ≤ 200 ∧ p.ch.length ≤ 30) → (l.flatMap pieceB).length ≤ l.length * 400 := by
    intro l
    induction l with
    | nil => intro _; simp
    | cons p l ih =>
      intro hl
      have a := ih (fun q hq => hl q (List.mem_cons_of_mem _ hq))
      obtain ⟨b, c⟩ := hl p List.mem_cons_self
      rw [List.flatMap_cons, List.length_append, List.length_cons]
      have : (pieceB p).length ≤ 400 := by
        unfold pieceB
        rw [List.length_append, List.length_append, nsB_len, nsB_len, W.strB_eq, List.length_append, W.be4_len]
        simp only [sixI, List.length_cons, List.length_nil, List.length_take]
        omega
      omega
  have h3 := this m.ps h2
  unfold bytesF
  rw [List.length_append, nsB_len]
  simp only [headI, List.length_cons, List.length_nil]
  omega
set_option maxHeartbeats 32000000 in
set_option maxRecDepth 50000 in
theorem g5r (m : Mf) (x : List UInt8) (st : List Ob) (hm : m.ok st) (hf : m.fit) (ho : okSt st) (hx : x.length ≤ 1048576) : swpF O215 sf5 [.agg m.cells, .str x] st (fun r st' => r = .bool true ∧ st' = st) := by
  have okT := okM hm ho
  have hmT := hm.mono [.cells m.cells]
  have r1 := ro1_mf hm
  have c1 := cell_mf hm
  have l1 : m.cells.length = 8 := rfl
  have t1 : m.cells.take 8 = m.cells := rfl
  have qv := hm.1.cv
  simp (maxSteps := 2000000) (disch := first | omega | simp only [List.length_append, List.length_cons, List.length_nil, List.length_map] <;> omega) only [sf5, r1, c1, cv_agg, List.set_cons_zero, List.set_cons_succ, flg_bool, exc_agg, swp_seq, swp_reg, seqK_n, evK_some, appK_eq, srun_nil, srun_cons, stepK_call, swpF_eq, sk_give, sk_box, get_mk, raw_slot, raw_lit, put_some, wb_nil, ev_give, ev_box, ro_bool, got_agg, pubs, pubsFrom, List.map_cons, List.map_nil, List.getD_cons_zero, List.length_cons, List.length_nil, List.replicate_succ, List.replicate_zero, List.cons_append, List.nil_append, Nat.reduceAdd, Nat.reduceSub, Bool.false_eq_true, ↓reduceIte, Nat.zero_add]
  refine callK_intro (z10 okT) ?_
  simp (maxSteps := 2000000) (disch := first | omega | simp only [List.length_append, List.length_cons, List.length_nil, List.length_map] <;> omega) only [r1, l1, t1, getA0, ev_ldA, List.drop_zero, List.set_cons_zero, List.set_cons_succ, apO_some, flg_bool, exc_agg, swp_seq, swp_reg, seqK_n, evK_some, appK_eq, appC_eq, srun_nil, srun_cons, stepK_call, sk_give, sk_load, get_mk, raw_slot, put_some, wb_nil, ev_give, ro_bool, ro_agg, got_agg, pubs, pubsFrom, List.map_cons, List.map_nil, List.getD_cons_zero, List.getD_cons_succ, List.getElem?_cons_zero, Bool.false_eq_true, ↓reduceIte, Nat.zero_add, Nat.le_refl]
  refine callK_intro (z11 hmT okT) ?_
  cases hfew : fewM m with
  | false =>
    simp (maxSteps := 2000000) (disch := first | omega | simp only [List.length_append, List.length_cons, List.length_nil, List.length_map] <;> omega) only [List.set_cons_zero, List.set_cons_succ, flg_bool, swp_seq, swp_reg, swp_ret, swp_cond, seqK_n, seqK_r, condK_t, evK_some, appK_eq, appC_eq, grd_t, srun_nil, srun_cons, stepK_grd, fin_ret, sk_mv, sk_give, sk_pick, sk_un, get_mk, raw_slot, raw_lit, put_some, wb_nil, ev_mv, ev_give, ev_pick, ev_not, ro_bool, List.map_cons, List.map_nil, List.getD_cons_zero, List.getD_cons_succ, true_and, Bool.false_eq_true, ↓reduceIte, reduceCtorEq, Bool.not_false]
    first | exact ⟨_, trim1 ho rfl⟩ | exact ⟨_, trim1 ho rfl, rfl⟩ | exact ⟨_, trim1 ho rfl, rfl, rfl⟩ | exact ⟨_, trim1 ho rfl, by simp, rfl⟩ | exact ⟨_, trim1 ho rfl, by simp⟩
  | true =>
  have fB := few_fitB hfew
  rcases bf (decide ((6000 : Int) < (x.length : Int))) with h6 | h6
  rotate_left
  · simp (maxSteps := 2000000) (disch := first | omega | simp only [List.length_append, List.length_cons, List.length_nil, List.length_map] <;> omega) only [h6, List.set_cons_zero, List.set_cons_succ, flg_bool, exc_str, swp_seq, swp_reg, swp_ret, swp_cond, seqK_n, seqK_r, condK_t, evK_some, appK_eq, appC_eq, grd_t, srun_nil, srun_cons, stepK_grd, fin_ret, sk_mv, sk_take, sk_give, sk_pick, sk_bin, sk_un, sk_lenS, get_mk, raw_slot, raw_lit, put_some, wb_nil, ev_mv, ev_take, ev_give, ev_pick, ev_not, ev_lenS, bin_gtr, ro_bool, got_str, List.map_cons, List.map_nil, List.getD_cons_zero, List.getD_cons_succ, true_and, Bool.false_eq_true, ↓reduceIte, Bool.not_true, gt_iff_lt]
    first | exact ⟨_, trim1 ho rfl⟩ | exact ⟨_, trim1 ho rfl, rfl⟩ | exact ⟨_, trim1 ho rfl, rfl, rfl⟩ | exact ⟨_, trim1 ho rfl, by simp, rfl⟩ | exact ⟨_, trim1 ho rfl, by simp⟩
  have hb := few_bytes hfew
  simp (maxSteps := 2000000) (disch := first | omega | simp only [List.length_append, List.length_cons, List.length_nil, List.length_map] <;> omega) only [h6, r1, l1, t1, getA0, ev_ldA, List.drop_zero, List.set_cons_zero, List.set_cons_succ, apO_some, flg_bool, exc_str, exc_agg, swp_seq, swp_reg, swp_skip, swp_cond, seqK_n, condK_f, evK_some, appK_eq, appC_eq, grd_t, srun_nil, srun_cons, stepK_call, stepK_grd, sk_mv, sk_take, sk_give, sk_pick, sk_bin, sk_un, sk_load, sk_lenS, get_mk, raw_slot, raw_lit, put_some, wb_nil, ev_mv, ev_take, ev_give, ev_pick, ev_not, ev_lenS, bin_gtr, ro_bool, ro_agg, got_str, got_agg, pubs, pubsFrom, List.map_cons, List.map_nil, List.getD_cons_zero, List.getD_cons_succ, List.getElem?_cons_zero, Bool.false_eq_true, ↓reduceIte, Nat.zero_add, Bool.not_true, gt_iff_lt, Nat.le_refl]
  refine callK_intro (z20 hmT fB okT) ?_
  simp (maxSteps := 2000000) (disch := first | omega | simp only [List.length_append, List.length_cons, List.length_nil, List.length_map] <;> omega) only [List.set_cons_zero, List.set_cons_succ, exc_str, appC_eq, srun_cons, stepK_call, get_mk, raw_slot, put_some, wb_nil, got_str, pubs, pubsFrom, List.map_cons, List.map_nil, List.getD_cons_zero, List.getD_cons_succ, Bool.false_eq_true, ↓reduceIte]
  have tf : (true == false) = false := rfl
  have ft : (false == true) = false := rfl
  have nt : (true != false) = true := rfl
  have nf : (false != true) = true := rfl
  cases hok : okR ((st ++ [Ob.cells m.cells]).length + 3) (bytesF m) with
  | true =>
    obtain ⟨m2, X, k22, ok2, okX, fit2, fB2, R2, b2, pl2⟩ := z22t (x := bytesF m) (by omega) okT hok
    refine callK_intro k22 ?_
    have okmX := hmT.mono X
    have gT2 : ∀ z, (((st ++ [Ob.cells m.cells]) ++ X) ++ z)[st.length]? = some (.cells m.cells) := fun z => by rw [List.append_assoc, List.append_assoc, getA0]; rfl
    have eT2 : ∃ y, (st ++ [Ob.cells m.cells]) ++ X = st ++ y := ⟨_, List.append_assoc ..⟩
    generalize (st ++ [Ob.cells m.cells]) ++ X = T2 at ok2 okX okmX gT2 eT2 ⊢
    have r2 := ro1_mf ok2
    have l2 : m2.cells.length = 8 := rfl
    have t2 : m2.cells.take 8 = m2.cells := rfl
    have sM2 := stM (st := T2) (l := [.cells [.int .i64 0, .int .i64 0, .int .i64 0, .int .i64 0, .int .i64 0, .int .i64 0, .int .i64 0, .nilS]]) (i := 0) rfl rfl ok2
    simp only [List.set_cons_zero, Nat.add_zero] at sM2
    have okU := okM ok2 okX
    have k18 := z18 (okmX.mono [Ob.cells m2.cells]) hf okU
    have k18b := z18 (ok2.mono [Ob.cells m2.cells]) fit2 okU
    have k14 := z14 (ok2.mono [Ob.cells m2.cells]) (okmX.mono [Ob.cells m2.cells]) okU
    have eU : ∃ y, T2 ++ [Ob.cells m2.cells] = st ++ y := by obtain ⟨y, rfl⟩ := eT2; exact ⟨_, List.append_assoc ..⟩
    rw [R2] at k18b
    generalize st.length = i1 at gT2 ⊢
    simp (maxSteps := 2000000) (disch := first | omega | simp only [List.length_append, List.length_cons, List.length_nil, List.length_map] <;> omega) only [sM2, r1, l1, t1, r2, gT2, ev_ldA, List.drop_zero, List.set_cons_zero, List.set_cons_succ, apO_some, flg_int, flg_agg, exc_agg, swp_seq, swp_reg, seqK_n, evK_some, appK_eq, appC_eq, srun_nil, srun_cons, stepK_call, sk_mv, sk_give, sk_bin, sk_load, sk_store, sk_alloc, sk_ext, get_mk, raw_slot, raw_lit, put_some, put_none, wb_nil, ev_mv, ev_give, ev_ext, bin_eql, ev_alloc, ro_int, ro_agg, ro_tup, ro2_int, got_agg, pubs, pubsFrom, List.map_cons, List.map_nil, List.getD_cons_zero, List.getD_cons_succ, List.getElem?_cons_zero, List.getElem?_cons_succ, Bool.false_eq_true, Option.map_some, ↓reduceIte, Nat.zero_add, beq_self_eq_true, Nat.le_refl]
    refine callK_intro k18 ?_
    cases hR : rightM m with
    | true =>
      have hsame : sameM m2 m = true := (sameM_iff _ _).2 (pl2.trans (by have := (read_at hR [] .ro 0).1; rwa [List.append_nil] at this))
      rw [hsame] at k14
      rw [hR] at k18
      simp (maxSteps := 2000000) (disch := first | omega | simp only [List.length_append, List.length_cons, List.length_nil, List.length_map] <;> omega) only [r1, l1, t1, gT2, ev_ldA, List.drop_zero, List.set_cons_zero, List.set_cons_succ, apO_some, exc_bool, exc_int, exc_agg, grd_s, evK_some, appK_eq, appC_eq, grd_t, srun_cons, stepK_call, stepK_grd, sk_mv, sk_take, sk_pick, sk_bin, sk_eqB, sk_load, get_mk, raw_slot, raw_lit, put_some, wb_nil, ev_mv, ev_take, ev_pick, ev_eqB, bin_eql, ro_bool, ro_agg, got_int, got_bool, got_agg, pubs, pubsFrom, List.map_cons, List.map_nil, List.getD_cons_zero, List.getD_cons_succ, Bool.false_eq_true, ↓reduceIte, Nat.zero_add, Bool.not_true, beq_self_eq_true, Nat.le_refl]
      refine callK_intro k18 ?_
      simp (maxSteps := 2000000) (disch := first | omega | simp only [List.length_append, List.length_cons, List.length_nil, List.length_map] <;> omega) only [r1, l1, t1, r2, l2, t2, gT2, getA0, ev_ldA, List.drop_zero, List.set_cons_zero, List.set_cons_succ, apO_some, exc_bool, exc_agg, evK_some, appK_eq, appC_eq, grd_t, srun_cons, stepK_call, stepK_grd, sk_take, sk_pick, sk_load, get_mk, raw_slot, raw_lit, put_some, wb_nil, ev_take, ev_pick, ro_bool, ro_agg, got_bool, got_agg, pubs, pubsFrom, List.map_cons, List.map_nil, List.getD_cons_zero, List.getD_cons_succ, List.getElem?_cons_zero, Bool.false_eq_true, ↓reduceIte, Nat.zero_add, Nat.le_refl]
      refine callK_intro k14 ?_
      simp (maxSteps := 2000000) (disch := first | omega | simp only [List.length_append, List.length_cons, List.length_nil, List.length_map] <;> omega) only [List.set_cons_zero, List.set_cons_succ, exc_str, swp_seq, swp_reg, swp_skip, swp_cond, seqK_n, condK_f, evK_some, appK_eq, appC_eq, grd_t, srun_nil, srun_cons, stepK_call, stepK_grd, sk_mv, sk_pick, sk_un, get_mk, raw_slot, raw_lit, put_some, wb_nil, ev_mv, ev_pick, ev_not, ro_bool, ro_str, got_str, pubs, pubsFrom, List.map_cons, List.map_nil, List.getD_cons_zero, List.getD_cons_succ, Bool.false_eq_true, ↓reduceIte, Bool.not_true]
      generalize (T2 ++ [Ob.cells m2.cells]) = T9 at okU eU ⊢
      have okT9 := okU
      obtain ⟨y, ey⟩ := eU
      cases h2 : okR (T9.length + 3) x with
      | true =>
        obtain ⟨m3, Y, k22b, ok3, okY, fit3, fB3, R3, b3, _⟩ := z22t (x := x) (by omega) okT9 h2
        refine callK_intro k22b ?_
        have r3 := ro1_mf ok3
        have l3 : m3.cells.length = 8 := rfl
        have t3 : m3.cells.take 8 = m3.cells := rfl
        have ok3e := ok3.mono [Ob.cells m3.cells]
        have okY3 := okM ok3 okY
        have eY : T9 ++ Y = st ++ (y ++ Y) := by rw [ey, List.append_assoc]
        generalize T9 ++ Y = T8 at ok3 okY ok3e okY3 eY ⊢
        have sM9 := stM (st := T8) (l := [.cells [.int .i64 0, .int .i64 0, .int .i64 0, .int .i64 0, .int .i64 0, .int .i64 0, .int .i64 0, .nilS]]) (i := 0) rfl rfl ok3
        simp only [List.set_cons_zero, Nat.add_zero] at sM9
        simp (maxSteps := 2000000) (disch := first | omega | simp only [List.length_append, List.length_cons, List.length_nil, List.length_map] <;> omega) only [sM9, r3, l3, t3, getA0, ev_ldA, List.drop_zero, List.set_cons_zero, List.set_cons_succ, apO_some, flg_int, flg_agg, exc_agg, swp_seq, swp_reg, swp_skip, swp_cond, seqK_n, condK_f, evK_some, appK_eq, appC_eq, grd_t, srun_nil, srun_cons, stepK_call, stepK_grd, sk_mv, sk_give, sk_bin, sk_load, sk_store, sk_alloc, sk_ext, get_mk, raw_slot, raw_lit, put_some, put_none, wb_nil, ev_mv, ev_give, ev_ext, bin_neq, ev_alloc, ro_int, ro_bool, ro_agg, ro_tup, ro2_int, got_agg, pubs, pubsFrom, List.map_cons, List.map_nil, List.getD_cons_zero, List.getD_cons_succ, List.getElem?_cons_zero, List.getElem?_cons_succ, Bool.false_eq_true, Option.map_some, ↓reduceIte, Nat.zero_add, bne_self_eq_false, Nat.le_refl]
        have k18 := z18 ok3e fit3 okY3
        rw [R3] at k18
        refine callK_intro k18 ?_
        simp (maxSteps := 2000000) (disch := first | omega | simp only [List.length_append, List.length_cons, List.length_nil, List.length_map] <;> omega) only [r3, l3, t3, getA0, ev_ldA, List.drop_zero, List.set_cons_zero, List.set_cons_succ, apO_some, exc_agg, evK_some, appK_eq, appC_eq, grd_t, srun_cons, stepK_call, stepK_grd, sk_mv, sk_pick, sk_load, get_mk, raw_slot, raw_lit, put_some, wb_nil, ev_mv, ev_pick, ro_bool, ro_agg, got_agg, pubs, pubsFrom, List.map_cons, List.map_nil, List.getD_cons_zero, List.getD_cons_succ, List.getElem?_cons_zero, Bool.false_eq_true, ↓reduceIte, Nat.zero_add, Nat.le_refl]
        have k20 := z20 ok3e fB3 okY3
        rw [b3] at k20
        refine callK_intro k20 ?_
        simp (maxSteps := 2000000) (disch := first | omega | simp only [List.length_append, List.length_cons, List.length_nil, List.length_map] <;> omega) only [beq_self_eq_true, List.set_cons_zero, List.set_cons_succ, flg_bool, exc_str, swp_ret, seqK_n, evK_some, appK_eq, appC_eq, grd_t, srun_nil, srun_cons, stepK_grd, fin_ret, sk_take, sk_give, sk_pick, sk_bin, get_mk, raw_slot, raw_lit, put_some, wb_nil, ev_take, ev_give, ev_pick, bin_eqlS, ro_bool, got_str, List.map_cons, List.map_nil, List.getD_cons_zero, List.getD_cons_succ, true_and, Bool.false_eq_true, ↓reduceIte]
        rw [eY, List.append_assoc]
        first | exact ⟨_, trim1 ho rfl⟩ | exact ⟨_, trim1 ho rfl, rfl⟩ | exact ⟨_, trim1 ho rfl, rfl, rfl⟩ | exact ⟨_, trim1 ho rfl, by simp, rfl⟩ | exact ⟨_, trim1 ho rfl, by simp⟩
      | false =>
        refine callK_intro (z22f (x := x) (by omega) okT9 h2) ?_
        have sN9 := stM (st := T9) (l := [.cells [.int .i64 0, .int .i64 0, .int .i64 0, .int .i64 0, .int .i64 0, .int .i64 0, .int .i64 0, .nilS]]) (i := 0) rfl rfl (Mf.none_ok [])
        simp only [List.set_cons_zero, Nat.add_zero] at sN9
        have rN := ro1_mf (Mf.none_ok [])
        have n1 : Mf.none.cells[7]? = some .nilS := rfl
        have n2 : Mf.none.cells[1]? = some (.int .i64 0) := rfl
        simp (maxSteps := 2000000) (disch := first | omega | simp only [List.length_append, List.length_cons, List.length_nil, List.length_map] <;> omega) only [sN9, rN, n1, n2, nbI, getA0, List.set_cons_zero, List.set_cons_succ, flg_bool, flg_int, flg_agg, exc_int, swp_seq, swp_reg, swp_ret, swp_cond, seqK_n, seqK_r, condK_t, evK_some, appK_eq, appC_eq, grd_t, srun_nil, srun_cons, stepK_grd, fin_ret, sk_mv, sk_take, sk_give, sk_pick, sk_bin, sk_fld, sk_load, sk_store, sk_lenL, sk_alloc, sk_ext, get_mk, raw_slot, raw_lit, put_some, put_none, wb_nil, ev_mv, ev_take, ev_give, ev_pick, ev_fld, ev_lenN, ev_ext, bin_eql, bin_neq, ev_alloc, ev_ldP, ldP_some, ro_int, ro_bool, ro_nilS, ro_agg, ro_tup, ro2_int, got_int, List.map_cons, List.map_nil, List.getD_cons_zero, List.getD_cons_succ, List.getElem?_cons_zero, List.getElem?_cons_succ, true_and, Bool.false_eq_true, Option.map_some, ↓reduceIte, Nat.zero_add, Bool.not_false, beq_self_eq_true, Int.reduceBEq]
        rw [ey, List.append_assoc]
        first | exact ⟨_, trim1 ho rfl⟩ | exact ⟨_, trim1 ho rfl, rfl⟩ | exact ⟨_, trim1 ho rfl, rfl, rfl⟩ | exact ⟨_, trim1 ho rfl, by simp, rfl⟩ | exact ⟨_, trim1 ho rfl, by simp⟩
    | false =>
      rw [hR] at k18
      simp (maxSteps := 2000000) (disch := first | omega | simp only [List.length_append, List.length_cons, List.length_nil, List.length_map] <;> omega) only [tf, r1, l1, t1, gT2, ev_ldA, List.drop_zero, List.set_cons_zero, List.set_cons_succ, apO_some, exc_agg, evK_some, appK_eq, appC_eq, grd_t, srun_cons, stepK_call, stepK_grd, sk_mv, sk_eqB, sk_load, get_mk, raw_slot, put_some, wb_nil, ev_mv, ev_eqB, ro_bool, ro_agg, got_agg, pubs, pubsFrom, List.map_cons, List.map_nil, List.getD_cons_zero, List.getD_cons_succ, Bool.false_eq_true, ↓reduceIte, Nat.zero_add, Bool.not_false, Nat.le_refl]
      refine callK_intro k18 ?_
      simp (maxSteps := 2000000) (disch := first | omega | simp only [List.length_append, List.length_cons, List.length_nil, List.length_map] <;> omega) only [r2, l2, t2, getA0, ev_ldA, List.drop_zero, List.set_cons_zero, List.set_cons_succ, apO_some, exc_bool, exc_int, exc_agg, evK_some, appK_eq, appC_eq, grd_t, srun_cons, stepK_call, stepK_grd, sk_take, sk_pick, sk_bin, sk_load, get_mk, raw_slot, raw_lit, put_some, wb_nil, ev_take, ev_pick, bin_neq, ro_bool, ro_agg, got_int, got_bool, got_agg, pubs, pubsFrom, List.map_cons, List.map_nil, List.getD_cons_zero, List.getD_cons_succ, List.getElem?_cons_zero, Bool.false_eq_true, ↓reduceIte, Nat.zero_add, bne_self_eq_false, Nat.le_refl]
      refine callK_intro k18b ?_
      simp (maxSteps := 2000000) (disch := first | omega | simp only [List.length_append, List.length_cons, List.length_nil, List.length_map] <;> omega) only [r1, l1, t1, gT2, ev_ldA, List.drop_zero, List.set_cons_zero, List.set_cons_succ, apO_some, exc_bool, exc_int, exc_agg, evK_some, appK_eq, appC_eq, grd_t, srun_cons, stepK_call, stepK_grd, sk_mv, sk_take, sk_pick, sk_bin, sk_un, sk_load, get_mk, raw_slot, raw_lit, put_some, wb_nil, ev_mv, ev_take, ev_pick, ev_not, bin_eql, ro_bool, ro_agg, got_int, got_bool, got_agg, pubs, pubsFrom, List.map_cons, List.map_nil, List.getD_cons_zero, List.getD_cons_succ, Bool.false_eq_true, ↓reduceIte, Nat.zero_add, Bool.not_true, beq_self_eq_true, Nat.le_refl]
      refine callK_intro k18 ?_
      simp (maxSteps := 2000000) (disch := first | omega | simp only [List.length_append, List.length_cons, List.length_nil, List.length_map] <;> omega) only [List.set_cons_zero, List.set_cons_succ, exc_bool, exc_str, swp_seq, swp_reg, swp_skip, swp_cond, seqK_n, condK_f, evK_some, appK_eq, appC_eq, grd_t, srun_nil, srun_cons, stepK_call, stepK_grd, sk_mv, sk_take, sk_pick, get_mk, raw_slot, raw_lit, put_some, wb_nil, ev_mv, ev_take, ev_pick, ro_bool, ro_str, got_bool, got_str, pubs, pubsFrom, List.map_cons, List.map_nil, List.getD_cons_zero, List.getD_cons_succ, Bool.false_eq_true, ↓reduceIte]
      generalize (T2 ++ [Ob.cells m2.cells]) = T9 at okU eU ⊢
      have okT9 := okU
      obtain ⟨y, ey⟩ := eU
      cases h2 : okR (T9.length + 3) x with
      | true =>
        obtain ⟨m3, Y, k22b, ok3, okY, fit3, fB3, R3, b3, _⟩ := z22t (x := x) (by omega) okT9 h2
        refine callK_intro k22b ?_
        have r3 := ro1_mf ok3
        have l3 : m3.cells.length = 8 := rfl
        have t3 : m3.cells.take 8 = m3.cells := rfl
        have ok3e := ok3.mono [Ob.cells m3.cells]
        have okY3 := okM ok3 okY
        have eY : T9 ++ Y = st ++ (y ++ Y) := by rw [ey, List.append_assoc]
        generalize T9 ++ Y = T8 at ok3 okY ok3e okY3 eY ⊢
        have sM9 := stM (st := T8) (l := [.cells [.int .i64 0, .int .i64 0, .int .i64 0, .int .i64 0, .int .i64 0, .int .i64 0, .int .i64 0, .nilS]]) (i := 0) rfl rfl ok3
        simp only [List.set_cons_zero, Nat.add_zero] at sM9
        simp (maxSteps := 2000000) (disch := first | omega | simp only [List.length_append, List.length_cons, List.length_nil, List.length_map] <;> omega) only [sM9, r3, l3, t3, getA0, ev_ldA, List.drop_zero, List.set_cons_zero, List.set_cons_succ, apO_some, flg_int, flg_agg, exc_agg, swp_seq, swp_reg, swp_skip, swp_cond, seqK_n, condK_f, evK_some, appK_eq, appC_eq, grd_t, srun_nil, srun_cons, stepK_call, stepK_grd, sk_mv, sk_give, sk_bin, sk_load, sk_store, sk_alloc, sk_ext, get_mk, raw_slot, raw_lit, put_some, put_none, wb_nil, ev_mv, ev_give, ev_ext, bin_neq, ev_alloc, ro_int, ro_bool, ro_agg, ro_tup, ro2_int, got_agg, pubs, pubsFrom, List.map_cons, List.map_nil, List.getD_cons_zero, List.getD_cons_succ, List.getElem?_cons_zero, List.getElem?_cons_succ, Bool.false_eq_true, Option.map_some, ↓reduceIte, Nat.zero_add, bne_self_eq_false, Nat.le_refl]
        have k18 := z18 ok3e fit3 okY3
        rw [R3] at k18
        refine callK_intro k18 ?_
        simp (maxSteps := 2000000) (disch := first | omega | simp only [List.length_append, List.length_cons, List.length_nil, List.length_map] <;> omega) only [r3, l3, t3, getA0, ev_ldA, List.drop_zero, List.set_cons_zero, List.set_cons_succ, apO_some, exc_agg, evK_some, appK_eq, appC_eq, grd_t, srun_cons, stepK_call, stepK_grd, sk_mv, sk_pick, sk_load, get_mk, raw_slot, raw_lit, put_some, wb_nil, ev_mv, ev_pick, ro_bool, ro_agg, got_agg, pubs, pubsFrom, List.map_cons, List.map_nil, List.getD_cons_zero, List.getD_cons_succ, List.getElem?_cons_zero, Bool.false_eq_true, ↓reduceIte, Nat.zero_add, Nat.le_refl]
        have k20 := z20 ok3e fB3 okY3
        rw [b3] at k20
        refine callK_intro k20 ?_
        simp (maxSteps := 2000000) (disch := first | omega | simp only [List.length_append, List.length_cons, List.length_nil, List.length_map] <;> omega) only [beq_self_eq_true, List.set_cons_zero, List.set_cons_succ, flg_bool, exc_str, swp_ret, seqK_n, evK_some, appK_eq, appC_eq, grd_t, srun_nil, srun_cons, stepK_grd, fin_ret, sk_take, sk_give, sk_pick, sk_bin, get_mk, raw_slot, raw_lit, put_some, wb_nil, ev_take, ev_give, ev_pick, bin_eqlS, ro_bool, got_str, List.map_cons, List.map_nil, List.getD_cons_zero, List.getD_cons_succ, true_and, Bool.false_eq_true, ↓reduceIte]
        rw [eY, List.append_assoc]
        first | exact ⟨_, trim1 ho rfl⟩ | exact ⟨_, trim1 ho rfl, rfl⟩ | exact ⟨_, trim1 ho rfl, rfl, rfl⟩ | exact ⟨_, trim1 ho rfl, by simp, rfl⟩ | exact ⟨_, trim1 ho rfl, by simp⟩
      | false =>
        refine callK_intro (z22f (x := x) (by omega) okT9 h2) ?_
        have sN9 := stM (st := T9) (l := [.cells [.int .i64 0, .int .i64 0, .int .i64 0, .int .i64 0, .int .i64 0, .int .i64 0, .int .i64 0, .nilS]]) (i := 0) rfl rfl (Mf.none_ok [])
        simp only [List.set_cons_zero, Nat.add_zero] at sN9
        have rN := ro1_mf (Mf.none_ok [])
        have n1 : Mf.none.cells[7]? = some .nilS := rfl
        have n2 : Mf.none.cells[1]? = some (.int .i64 0) := rfl
        simp (maxSteps := 2000000) (disch := first | omega | simp only [List.length_append, List.length_cons, List.length_nil, List.length_map] <;> omega) only [sN9, rN, n1, n2, nbI, getA0, List.set_cons_zero, List.set_cons_succ, flg_bool, flg_int, flg_agg, exc_int, swp_seq, swp_reg, swp_ret, swp_cond, seqK_n, seqK_r, condK_t, evK_some, appK_eq, appC_eq, grd_t, srun_nil, srun_cons, stepK_grd, fin_ret, sk_mv, sk_take, sk_give, sk_pick, sk_bin, sk_fld, sk_load, sk_store, sk_lenL, sk_alloc, sk_ext, get_mk, raw_slot, raw_lit, put_some, put_none, wb_nil, ev_mv, ev_take, ev_give, ev_pick, ev_fld, ev_lenN, ev_ext, bin_eql, bin_neq, ev_alloc, ev_ldP, ldP_some, ro_int, ro_bool, ro_nilS, ro_agg, ro_tup, ro2_int, got_int, List.map_cons, List.map_nil, List.getD_cons_zero, List.getD_cons_succ, List.getElem?_cons_zero, List.getElem?_cons_succ, true_and, Bool.false_eq_true, Option.map_some, ↓reduceIte, Nat.zero_add, Bool.not_false, beq_self_eq_true, Int.reduceBEq]
        rw [ey, List.append_assoc]
        first | exact ⟨_, trim1 ho rfl⟩ | exact ⟨_, trim1 ho rfl, rfl⟩ | exact ⟨_, trim1 ho rfl, rfl, rfl⟩ | exact ⟨_, trim1 ho rfl, by simp, rfl⟩ | exact ⟨_, trim1 ho rfl, by simp⟩
  | false =>
    have hR : rightM m = false := by
      rw [Bool.eq_false_iff]; intro hR
      have := okR_at hR [] ((st ++ [Ob.cells m.cells]).length + 3)
      rw [List.append_nil, hok] at this; cases this
    refine callK_intro (z22f (x := bytesF m) (by omega) okT hok) ?_
    have okU := okM (Mf.none_ok _) okT
    have k18 := z18 (hmT.mono [Ob.cells Mf.none.cells]) hf okU
    rw [hR] at k18
    have gT2 : ∀ z, ((st ++ [Ob.cells m.cells]) ++ z)[st.length]? = some (.cells m.cells) := fun z => by rw [List.append_assoc, getA0]; rfl
    have eU : ∃ y, (st ++ [Ob.cells m.cells]) ++ [Ob.cells Mf.none.cells] = st ++ y := ⟨_, List.append_assoc ..⟩
    generalize (st ++ [Ob.cells m.cells]) = T2 at *
    generalize st.length = i1 at gT2 ⊢
    have sM2 := stM (st := T2) (l := [.cells [.int .i64 0, .int .i64 0, .int .i64 0, .int .i64 0, .int .i64 0, .int .i64 0, .int .i64 0, .nilS]]) (i := 0) rfl rfl (Mf.none_ok [])
    simp only [List.set_cons_zero, Nat.add_zero] at sM2
    have rN := ro1_mf (Mf.none_ok [])
    simp (maxSteps := 2000000) (disch := first | omega | simp only [List.length_append, List.length_cons, List.length_nil, List.length_map] <;> omega) only [sM2, rN, r1, l1, t1, gT2, ev_ldA, List.drop_zero, List.set_cons_zero, List.set_cons_succ, apO_some, flg_int, flg_agg, exc_agg, swp_seq, swp_reg, seqK_n, evK_some, appK_eq, appC_eq, srun_nil, srun_cons, stepK_call, sk_mv, sk_give, sk_bin, sk_load, sk_store, sk_alloc, sk_ext, get_mk, raw_slot, raw_lit, put_some, put_none, wb_nil, ev_mv, ev_give, ev_ext, bin_eql, ev_alloc, ro_int, ro_agg, ro_tup, ro2_int, got_agg, pubs, pubsFrom, List.map_cons, List.map_nil, List.getD_cons_zero, List.getD_cons_succ, List.getElem?_cons_zero, List.getElem?_cons_succ, Bool.false_eq_true, Option.map_some, ↓reduceIte, Nat.zero_add, Int.reduceBEq, Nat.le_refl]
    refine callK_intro k18 ?_
    simp (maxSteps := 2000000) (disch := first | omega | simp only [List.length_append, List.length_cons, List.length_nil, List.length_map] <;> omega) only [List.set_cons_zero, List.set_cons_succ, exc_bool, exc_int, exc_str, grd_s, swp_seq, swp_reg, swp_skip, swp_cond, seqK_n, condK_f, evK_some, appK_eq, appC_eq, grd_t, srun_nil, srun_cons, stepK_call, stepK_grd, sk_mv, sk_take, sk_pick, sk_bin, sk_eqB, get_mk, raw_slot, raw_lit, put_some, wb_nil, ev_mv, ev_take, ev_pick, ev_eqB, bin_eql, ro_bool, ro_str, got_int, got_bool, got_str, pubs, pubsFrom, List.map_cons, List.map_nil, List.getD_cons_zero, List.getD_cons_succ, Bool.false_eq_true, ↓reduceIte, Bool.not_true, beq_self_eq_true, Int.reduceBEq]
    generalize (T2 ++ [Ob.cells Mf.none.cells]) = T9 at okU eU ⊢
    have okT9 := okU
    obtain ⟨y, ey⟩ := eU
    cases h2 : okR (T9.length + 3) x with
    | true =>
      obtain ⟨m3, Y, k22b, ok3, okY, fit3, fB3, R3, b3, _⟩ := z22t (x := x) (by omega) okT9 h2
      refine callK_intro k22b ?_
      have r3 := ro1_mf ok3
      have l3 : m3.cells.length = 8 := rfl
      have t3 : m3.cells.take 8 = m3.cells := rfl
      have ok3e := ok3.mono [Ob.cells m3.cells]
      have okY3 := okM ok3 okY
      have eY : T9 ++ Y = st ++ (y ++ Y) := by rw [ey, List.append_assoc]
      generalize T9 ++ Y = T8 at ok3 okY ok3e okY3 eY ⊢
      have sM9 := stM (st := T8) (l := [.cells [.int .i64 0, .int .i64 0, .int .i64 0, .int .i64 0, .int .i64 0, .int .i64 0, .int .i64 0, .nilS]]) (i := 0) rfl rfl ok3
      simp only [List.set_cons_zero, Nat.add_zero] at sM9
      simp (maxSteps := 2000000) (disch := first | omega | simp only [List.length_append, List.length_cons, List.length_nil, List.length_map] <;> omega) only [sM9, r3, l3, t3, getA0, ev_ldA, List.drop_zero, List.set_cons_zero, List.set_cons_succ, apO_some, flg_int, flg_agg, exc_agg, swp_seq, swp_reg, swp_skip, swp_cond, seqK_n, condK_f, evK_some, appK_eq, appC_eq, grd_t, srun_nil, srun_cons, stepK_call, stepK_grd, sk_mv, sk_give, sk_bin, sk_load, sk_store, sk_alloc, sk_ext, get_mk, raw_slot, raw_lit, put_some, put_none, wb_nil, ev_mv, ev_give, ev_ext, bin_neq, ev_alloc, ro_int, ro_bool, ro_agg, ro_tup, ro2_int, got_agg, pubs, pubsFrom, List.map_cons, List.map_nil, List.getD_cons_zero, List.getD_cons_succ, List.getElem?_cons_zero, List.getElem?_cons_succ, Bool.false_eq_true, Option.map_some, ↓reduceIte, Nat.zero_add, bne_self_eq_false, Nat.le_refl]
      have k18 := z18 ok3e fit3 okY3
      rw [R3] at k18
      refine callK_intro k18 ?_
      simp (maxSteps := 2000000) (disch := first | omega | simp only [List.length_append, List.length_cons, List.length_nil, List.length_map] <;> omega) only [r3, l3, t3, getA0, ev_ldA, List.drop_zero, List.set_cons_zero, List.set_cons_succ, apO_some, exc_agg, evK_some, appK_eq, appC_eq, grd_t, srun_cons, stepK_call, stepK_grd, sk_mv, sk_pick, sk_load, get_mk, raw_slot, raw_lit, put_some, wb_nil, ev_mv, ev_pick, ro_bool, ro_agg, got_agg, pubs, pubsFrom, List.map_cons, List.map_nil, List.getD_cons_zero, List.getD_cons_succ, List.getElem?_cons_zero, Bool.false_eq_true, ↓reduceIte, Nat.zero_add, Nat.le_refl]
      have k20 := z20 ok3e fB3 okY3
      rw [b3] at k20
      refine callK_intro k20 ?_
      simp (maxSteps := 2000000) (disch := first | omega | simp only [List.length_append, List.length_cons, List.length_nil, List.length_map] <;> omega) only [beq_self_eq_true, List.set_cons_zero, List.set_cons_succ, flg_bool, exc_str, swp_ret, seqK_n, evK_some, appK_eq, appC_eq, grd_t, srun_nil, srun_cons, stepK_grd, fin_ret, sk_take, sk_give, sk_pick, sk_bin, get_mk, raw_slot, raw_lit, put_some, wb_nil, ev_take, ev_give, ev_pick, bin_eqlS, ro_bool, got_str, List.map_cons, List.map_nil, List.getD_cons_zero, List.getD_cons_succ, true_and, Bool.false_eq_true, ↓reduceIte]
      rw [eY, List.append_assoc]
      first | exact ⟨_, trim1 ho rfl⟩ | exact ⟨_, trim1 ho rfl, rfl⟩ | exact ⟨_, trim1 ho rfl, rfl, rfl⟩ | exact ⟨_, trim1 ho rfl, by simp, rfl⟩ | exact ⟨_, trim1 ho rfl, by simp⟩
    | false =>
      refine callK_intro (z22f (x := x) (by omega) okT9 h2) ?_
      have sN9 := stM (st := T9) (l := [.cells [.int .i64 0, .int .i64 0, .int .i64 0, .int .i64 0, .int .i64 0, .int .i64 0, .int .i64 0, .nilS]]) (i := 0) rfl rfl (Mf.none_ok [])
      simp only [List.set_cons_zero, Nat.add_zero] at sN9
      have rN := ro1_mf (Mf.none_ok [])
      have n1 : Mf.none.cells[7]? = some .nilS := rfl
      have n2 : Mf.none.cells[1]? = some (.int .i64 0) := rfl
      simp (maxSteps := 2000000) (disch := first | omega | simp only [List.length_append, List.length_cons, List.length_nil, List.length_map] <;> omega) only [sN9, rN, n1, n2, nbI, getA0, List.set_cons_zero, List.set_cons_succ, flg_bool, flg_int, flg_agg, exc_int, swp_seq, swp_reg, swp_ret, swp_cond, seqK_n, seqK_r, condK_t, evK_some, appK_eq, appC_eq, grd_t, srun_nil, srun_cons, stepK_grd, fin_ret, sk_mv, sk_take, sk_give, sk_pick, sk_bin, sk_fld, sk_load, sk_store, sk_lenL, sk_alloc, sk_ext, get_mk, raw_slot, raw_lit, put_some, put_none, wb_nil, ev_mv, ev_take, ev_give, ev_pick, ev_fld, ev_lenN, ev_ext, bin_eql, bin_neq, ev_alloc, ev_ldP, ldP_some, ro_int, ro_bool, ro_nilS, ro_agg, ro_tup, ro2_int, got_int, List.map_cons, List.map_nil, List.getD_cons_zero, List.getD_cons_succ, List.getElem?_cons_zero, List.getElem?_cons_succ, true_and, Bool.false_eq_true, Option.map_some, ↓reduceIte, Nat.zero_add, Bool.not_false, beq_self_eq_true, Int.reduceBEq]
      rw [ey, List.append_assoc]
      first | exact ⟨_, trim1 ho rfl⟩ | exact ⟨_, trim1 ho rfl, rfl⟩ | exact ⟨_, trim1 ho rfl, rfl, rfl⟩ | exact ⟨_, trim1 ho rfl, by simp, rfl⟩ | exact ⟨_, trim1 ho rfl, by simp⟩
end Go.Sh.F
namespace Go.Sh.F
open Go.PathLaw Go.Proofs
set_option maxHeartbeats 32000000 in
set_option maxRecDepth 50000 in
theorem g6r (m o : Mf) (st : List Ob) (hm : m.ok st) (hf : m.fit) (h2 : o.ok st) (hf2 : o.fit) (ho : okSt st) : swpF O215 sf6 [.agg m.cells, .agg o.cells] st (fun r st' => r = .bool true ∧ st' = st) := by
  have okT : okSt (st ++ [.cells m.cells, .cells o.cells]) := by
    have := okM (h2.mono [.cells m.cells]) (okM hm ho)
    simpa only [List.append_assoc, List.cons_append, List.nil_append] using this
  have hmT := hm.mono [.cells m.cells, .cells o.cells]
  have hoT := h2.mono [.cells m.cells, .cells o.cells]
  have r1 := ro1_mf hm
  have c1 := cell_mf hm
  have l1 : m.cells.length = 8 := rfl
  have t1 : m.cells.take 8 = m.cells := rfl
  have r2 := ro1_mf h2
  have c2 := cell_mf h2
  have l2 : o.cells.length = 8 := rfl
  have t2 : o.cells.take 8 = o.cells := rfl
  simp (maxSteps := 2000000) (disch := first | omega | simp only [List.length_append, List.length_cons, List.length_nil, List.length_map] <;> omega) only [sf6, r1, c1, r2, c2, cv_agg, List.append_assoc, List.set_cons_zero, List.set_cons_succ, flg_bool, exc_agg, swp_seq, swp_reg, seqK_n, evK_some, appK_eq, srun_nil, srun_cons, stepK_call, swpF_eq, sk_give, sk_box, get_mk, raw_slot, raw_lit, put_some, wb_nil, ev_give, ev_box, ro_bool, got_agg, pubs, pubsFrom, List.map_cons, List.map_nil, List.getD_cons_zero, List.getD_cons_succ, List.length_cons, List.length_nil, List.replicate_succ, List.replicate_zero, List.cons_append, List.nil_append, Nat.reduceAdd, Nat.reduceSub, Bool.false_eq_true, ↓reduceIte, Nat.zero_add, List.length_append]
  refine callK_intro (z10 okT) ?_
  simp (maxSteps := 2000000) (disch := first | omega | simp only [List.length_append, List.length_cons, List.length_nil, List.length_map] <;> omega) only [r1, l1, t1, getA0, ev_ldA, List.drop_zero, List.set_cons_zero, List.set_cons_succ, apO_some, flg_bool, exc_agg, swp_seq, swp_reg, seqK_n, evK_some, appK_eq, appC_eq, srun_nil, srun_cons, stepK_call, sk_give, sk_load, get_mk, raw_slot, put_some, wb_nil, ev_give, ro_bool, ro_agg, got_agg, pubs, pubsFrom, List.map_cons, List.map_nil, List.getD_cons_zero, List.getD_cons_succ, List.getElem?_cons_zero, Bool.false_eq_true, ↓reduceIte, Nat.zero_add, Nat.le_refl]
  refine callK_intro (z11 hmT okT) ?_
  simp (maxSteps := 2000000) (disch := first | omega | simp only [List.length_append, List.length_cons, List.length_nil, List.length_map] <;> omega) only [r2, l2, t2, getA, ev_ldA, List.drop_zero, List.set_cons_zero, List.set_cons_succ, apO_some, flg_bool, exc_agg, swp_seq, swp_reg, seqK_n, evK_some, appK_eq, appC_eq, srun_nil, srun_cons, stepK_call, sk_give, sk_load, get_mk, raw_slot, put_some, wb_nil, ev_give, ro_bool, ro_agg, got_agg, pubs, pubsFrom, List.map_cons, List.map_nil, List.getD_cons_zero, List.getD_cons_succ, List.getElem?_cons_zero, List.getElem?_cons_succ, Bool.false_eq_true, ↓reduceIte, Nat.zero_add, Nat.le_refl]
  refine callK_intro (z11 hoT okT) ?_
  cases hfew : fewM m with
  | false =>
    simp (maxSteps := 2000000) (disch := first | omega | simp only [List.length_append, List.length_cons, List.length_nil, List.length_map] <;> omega) only [List.set_cons_zero, List.set_cons_succ, flg_bool, swp_seq, swp_reg, swp_ret, swp_cond, seqK_n, seqK_r, condK_t, evK_some, appK_eq, appC_eq, grd_t, srun_nil, srun_cons, stepK_grd, fin_ret, sk_mv, sk_give, sk_pick, sk_un, get_mk, raw_slot, raw_lit, put_some, wb_nil, ev_mv, ev_give, ev_pick, ev_not, ro_bool, List.map_cons, List.map_nil, List.getD_cons_zero, List.getD_cons_succ, true_and, Bool.false_eq_true, ↓reduceIte, reduceCtorEq, Bool.not_false]
    first | exact ⟨_, trim1 ho rfl⟩ | exact ⟨_, trim1 ho rfl, rfl⟩ | exact ⟨_, trim1 ho rfl, rfl, rfl⟩ | exact ⟨_, trim1 ho rfl, by simp, rfl⟩ | exact ⟨_, trim1 ho rfl, by simp⟩
  | true =>
  cases hfew2 : fewM o with
  | false =>
    simp (maxSteps := 2000000) (disch := first | omega | simp only [List.length_append, List.length_cons, List.length_nil, List.length_map] <;> omega) only [List.set_cons_zero, List.set_cons_succ, flg_bool, exc_bool, swp_seq, swp_reg, swp_ret, swp_cond, seqK_n, seqK_r, condK_t, evK_some, appK_eq, appC_eq, grd_t, srun_nil, srun_cons, stepK_grd, fin_ret, sk_mv, sk_take, sk_give, sk_pick, sk_un, get_mk, raw_slot, raw_lit, put_some, wb_nil, ev_mv, ev_take, ev_give, ev_pick, ev_not, ro_bool, got_bool, List.map_cons, List.map_nil, List.getD_cons_zero, List.getD_cons_succ, true_and, Bool.false_eq_true, ↓reduceIte, reduceCtorEq, Bool.not_true, Bool.not_false]
    first | exact ⟨_, trim1 ho rfl⟩ | exact ⟨_, trim1 ho rfl, rfl⟩ | exact ⟨_, trim1 ho rfl, rfl, rfl⟩ | exact ⟨_, trim1 ho rfl, by simp, rfl⟩ | exact ⟨_, trim1 ho rfl, by simp⟩
  | true =>
  simp (maxSteps := 2000000) (disch := first | omega | simp only [List.length_append, List.length_cons, List.length_nil, List.length_map] <;> omega) only [r1, l1, t1, getA0, ev_ldA, List.drop_zero, List.set_cons_zero, List.set_cons_succ, apO_some, flg_bool, exc_bool, exc_agg, swp_seq, swp_reg, seqK_n, evK_some, appK_eq, appC_eq, grd_t, srun_nil, srun_cons, stepK_call, stepK_grd, sk_mv, sk_take, sk_give, sk_pick, sk_un, sk_load, get_mk, raw_slot, raw_lit, put_some, wb_nil, ev_mv, ev_take, ev_give, ev_pick, ev_not, ro_bool, ro_agg, got_bool, got_agg, pubs, pubsFrom, List.map_cons, List.map_nil, List.getD_cons_zero, List.getD_cons_succ, List.getElem?_cons_zero, Bool.false_eq_true, ↓reduceIte, Nat.zero_add, Bool.not_true, Nat.le_refl]
  refine callK_intro (z18 hmT hf okT) ?_
  cases hR : rightM m with
  | false =>
    simp (maxSteps := 2000000) (disch := first | omega | simp only [List.length_append, List.length_cons, List.length_nil, List.length_map] <;> omega) only [List.set_cons_zero, List.set_cons_succ, flg_bool, swp_seq, swp_reg, swp_ret, swp_cond, seqK_n, seqK_r, condK_t, evK_some, appK_eq, appC_eq, grd_t, srun_nil, srun_cons, stepK_grd, fin_ret, sk_mv, sk_give, sk_pick, sk_un, get_mk, raw_slot, raw_lit, put_some, wb_nil, ev_mv, ev_give, ev_pick, ev_not, ro_bool, List.map_cons, List.map_nil, List.getD_cons_zero, List.getD_cons_succ, true_and, Bool.false_eq_true, ↓reduceIte, reduceCtorEq, Bool.not_false]
    first | exact ⟨_, trim1 ho rfl⟩ | exact ⟨_, trim1 ho rfl, rfl⟩ | exact ⟨_, trim1 ho rfl, rfl, rfl⟩ | exact ⟨_, trim1 ho rfl, by simp, rfl⟩ | exact ⟨_, trim1 ho rfl, by simp⟩
  | true =>
  simp (maxSteps := 2000000) (disch := first | omega | simp only [List.length_append, List.length_cons, List.length_nil, List.length_map] <;> omega) only [r2, l2, t2, getA, ev_ldA, List.drop_zero, List.set_cons_zero, List.set_cons_succ, apO_some, exc_agg, evK_some, appK_eq, appC_eq, grd_t, srun_cons, stepK_call, stepK_grd, sk_mv, sk_pick, sk_un, sk_load, get_mk, raw_slot, raw_lit, put_some, wb_nil, ev_mv, ev_pick, ev_not, ro_bool, ro_agg, got_agg, pubs, pubsFrom, List.map_cons, List.map_nil, List.getD_cons_zero, List.getD_cons_succ, List.getElem?_cons_zero, List.getElem?_cons_succ, Bool.false_eq_true, ↓reduceIte, Nat.zero_add, Bool.not_true, Nat.le_refl]
  refine callK_intro (z18 hoT hf2 okT) ?_
  cases hR2 : rightM o with
  | false =>
    simp (maxSteps := 2000000) (disch := first | omega | simp only [List.length_append, List.length_cons, List.length_nil, List.length_map] <;> omega) only [List.set_cons_zero, List.set_cons_succ, flg_bool, swp_seq, swp_reg, swp_ret, swp_cond, seqK_n, seqK_r, condK_t, evK_some, appK_eq, appC_eq, grd_t, srun_nil, srun_cons, stepK_grd, fin_ret, sk_mv, sk_give, sk_pick, sk_un, get_mk, raw_slot, raw_lit, put_some, wb_nil, ev_mv, ev_give, ev_pick, ev_not, ro_bool, List.map_cons, List.map_nil, List.getD_cons_zero, List.getD_cons_succ, true_and, Bool.false_eq_true, ↓reduceIte, Bool.not_false]
    first | exact ⟨_, trim1 ho rfl⟩ | exact ⟨_, trim1 ho rfl, rfl⟩ | exact ⟨_, trim1 ho rfl, rfl, rfl⟩ | exact ⟨_, trim1 ho rfl, by simp, rfl⟩ | exact ⟨_, trim1 ho rfl, by simp⟩
  | true =>
  have ka := z20 hmT (few_fitB hfew) okT
  have kb := z20 hoT (few_fitB hfew2) okT
  have kc := z14 hmT hoT okT
  rw [← bytes_same hR hR2] at kc
  simp (maxSteps := 2000000) (disch := first | omega | simp only [List.length_append, List.length_cons, List.length_nil, List.length_map] <;> omega) only [r1, l1, t1, getA0, ev_ldA, List.drop_zero, List.set_cons_zero, List.set_cons_succ, apO_some, swp_seq, swp_reg, swp_skip, swp_cond, seqK_n, condK_f, evK_some, appK_eq, appC_eq, grd_t, srun_nil, srun_cons, stepK_grd, sk_mv, sk_pick, sk_un, sk_load, get_mk, raw_slot, raw_lit, put_some, wb_nil, ev_mv, ev_pick, ev_not, ro_bool, ro_agg, List.map_cons, List.map_nil, List.getD_cons_zero, List.getD_cons_succ, List.getElem?_cons_zero, Bool.false_eq_true, ↓reduceIte, Nat.zero_add, Bool.not_true, Nat.le_refl]
  apply swp_to
  · repeat' first
      | with_reducible exact swp_ttI
      | with_reducible refine swp_bothI ?_ ?_
      | with_reducible refine callK_intro ka ?_
      | with_reducible refine callK_intro kb ?_
      | with_reducible refine callK_intro kc ?_
      | with_reducible exact ⟨rfl, rfl⟩
      | simp (maxSteps := 2000000) (disch := first | omega | simp only [List.length_append, List.length_cons, List.length_nil, List.length_map] <;> omega) only [r1, l1, t1, r2, l2, t2, beq_self_eq_true, getA0, getA, ev_ldA, List.drop_zero, List.set_cons_zero, List.set_cons_succ, apO_some, flg_bool, exc_agg, swp_seq, swp_reg, seqK_n, evK_some, appK_eq, appC_eq, grd_t, srun_nil, srun_cons, stepK_call, stepK_grd, sk_give, sk_pick, sk_bin, sk_eqB, sk_load, get_mk, raw_slot, raw_lit, put_some, wb_nil, ev_give, ev_pick, ev_eqB, bin_eqlS, ro_bool, ro_agg, got_agg, pubs, pubsFrom, List.map_cons, List.map_nil, List.getD_cons_zero, List.getD_cons_succ, List.getElem?_cons_zero, List.getElem?_cons_succ, true_and, Bool.false_eq_true, ↓reduceIte, Nat.zero_add, Nat.le_refl]
      | exact rfl
  simp (maxSteps := 2000000) (disch := first | omega | simp only [List.length_append, List.length_cons, List.length_nil, List.length_map] <;> omega) only [swp_ret, seqK_n, fin_ret, get_mk, List.getD_cons_zero, List.getD_cons_succ, true_and]
  first | exact ⟨_, trim1 ho rfl⟩ | exact ⟨_, trim1 ho rfl, rfl⟩ | exact ⟨_, trim1 ho rfl, rfl, rfl⟩ | exact ⟨_, trim1 ho rfl, by simp, rfl⟩ | exact ⟨_, trim1 ho rfl, by simp⟩
theorem b_nil {x : List UInt8} (h : x ≠ []) : (x == []) = false := by cases x <;> first | rfl | exact absurd rfl h
set_option maxHeartbeats 32000000 in
set_option maxRecDepth 50000 in
theorem g7r (m : Mf) (k : Int) (x : List UInt8) (st : List Ob) (hm : m.ok st) (hf : m.fit) (ho : okSt st) (hx : x.length ≤ 1048576) : swpF O215 sf7 [.agg m.cells, .int .i64 k, .str x] st (fun r st' => r = .bool true ∧ st' = st) := by
  have okT := okM hm ho
  have hmT := hm.mono [.cells m.cells]
  have r1 := ro1_mf hm
  have c1 := cell_mf hm
  have l1 : m.cells.length = 8 := rfl
  have t1 : m.cells.take 8 = m.cells := rfl
  have tf : (true == false) = false := rfl
  have ft : (false == true) = false := rfl
  simp (maxSteps := 2000000) (disch := first | omega | simp only [List.length_append, List.length_cons, List.length_nil, List.length_map] <;> omega) only [sf7, r1, c1, cv_agg, List.set_cons_zero, List.set_cons_succ, flg_bool, exc_agg, swp_seq, swp_reg, seqK_n, evK_some, appK_eq, srun_nil, srun_cons, stepK_call, swpF_eq, sk_give, sk_box, get_mk, raw_slot, raw_lit, put_some, wb_nil, ev_give, ev_box, ro_bool, got_agg, pubs, pubsFrom, List.map_cons, List.map_nil, List.getD_cons_zero, List.length_cons, List.length_nil, List.replicate_succ, List.replicate_zero, List.cons_append, List.nil_append, Nat.reduceAdd, Nat.reduceSub, Bool.false_eq_true, ↓reduceIte, Nat.zero_add]
  refine callK_intro (z10 okT) ?_
  simp (maxSteps := 2000000) (disch := first | omega | simp only [List.length_append, List.length_cons, List.length_nil, List.length_map] <;> omega) only [r1, l1, t1, getA0, ev_ldA, List.drop_zero, List.set_cons_zero, List.set_cons_succ, apO_some, flg_bool, exc_agg, swp_seq, swp_reg, seqK_n, evK_some, appK_eq, appC_eq, srun_nil, srun_cons, stepK_call, sk_give, sk_load, get_mk, raw_slot, put_some, wb_nil, ev_give, ro_bool, ro_agg, got_agg, pubs, pubsFrom, List.map_cons, List.map_nil, List.getD_cons_zero, List.getD_cons_succ, List.getElem?_cons_zero, Bool.false_eq_true, ↓reduceIte, Nat.zero_add, Nat.le_refl]
  refine callK_intro (z11 hmT okT) ?_
  cases hfew : fewM m with
  | false =>
    simp (maxSteps := 2000000) (disch := first | omega | simp only [List.length_append, List.length_cons, List.length_nil, List.length_map] <;> omega) only [List.set_cons_zero, List.set_cons_succ, flg_bool, swp_seq, swp_reg, swp_ret, swp_cond, seqK_n, seqK_r, condK_t, evK_some, appK_eq, appC_eq, grd_t, srun_nil, srun_cons, stepK_grd, fin_ret, sk_mv, sk_give, sk_pick, sk_un, get_mk, raw_slot, raw_lit, put_some, wb_nil, ev_mv, ev_give, ev_pick, ev_not, ro_bool, List.map_cons, List.map_nil, List.getD_cons_zero, List.getD_cons_succ, true_and, Bool.false_eq_true, ↓reduceIte, reduceCtorEq, Bool.not_false]
    first | exact ⟨_, trim1 ho rfl⟩ | exact ⟨_, trim1 ho rfl, rfl⟩ | exact ⟨_, trim1 ho rfl, rfl, rfl⟩ | exact ⟨_, trim1 ho rfl, by simp, rfl⟩ | exact ⟨_, trim1 ho rfl, by simp⟩
  | true =>
  simp (maxSteps := 2000000) (disch := first | omega | simp only [List.length_append, List.length_cons, List.length_nil, List.length_map] <;> omega) only [r1, l1, t1, getA0, ev_ldA, List.drop_zero, List.set_cons_zero, List.set_cons_succ, apO_some, flg_bool, exc_agg, swp_seq, swp_reg, seqK_n, evK_some, appK_eq, appC_eq, grd_t, srun_nil, srun_cons, stepK_call, stepK_grd, sk_mv, sk_give, sk_un, sk_load, get_mk, raw_slot, put_some, wb_nil, ev_mv, ev_give, ev_not, ro_bool, ro_agg, got_agg, pubs, pubsFrom, List.map_cons, List.map_nil, List.getD_cons_zero, List.getD_cons_succ, List.getElem?_cons_zero, Bool.false_eq_true, ↓reduceIte, Nat.zero_add, Bool.not_true, Nat.le_refl]
  refine callK_intro (z18 hmT hf okT) ?_
  cases hR : rightM m with
  | false =>
    simp (maxSteps := 2000000) (disch := first | omega | simp only [List.length_append, List.length_cons, List.length_nil, List.length_map] <;> omega) only [List.set_cons_zero, List.set_cons_succ, flg_bool, swp_seq, swp_reg, swp_ret, swp_cond, seqK_n, seqK_r, condK_t, evK_some, appK_eq, appC_eq, grd_t, srun_nil, srun_cons, stepK_grd, fin_ret, sk_mv, sk_give, sk_pick, sk_un, get_mk, raw_slot, raw_lit, put_some, wb_nil, ev_mv, ev_give, ev_pick, ev_not, ro_bool, List.map_cons, List.map_nil, List.getD_cons_zero, List.getD_cons_succ, true_and, Bool.false_eq_true, ↓reduceIte, reduceCtorEq, Bool.not_false]
    first | exact ⟨_, trim1 ho rfl⟩ | exact ⟨_, trim1 ho rfl, rfl⟩ | exact ⟨_, trim1 ho rfl, rfl, rfl⟩ | exact ⟨_, trim1 ho rfl, by simp, rfl⟩ | exact ⟨_, trim1 ho rfl, by simp⟩
  | true =>
  rcases bf (decide ((100 : Int) < (x.length : Int))) with h6 | h6
  rotate_left
  · simp (maxSteps := 2000000) (disch := first | omega | simp only [List.length_append, List.length_cons, List.length_nil, List.length_map] <;> omega) only [h6, List.set_cons_zero, List.set_cons_succ, flg_bool, exc_str, swp_seq, swp_reg, swp_ret, swp_cond, seqK_n, seqK_r, condK_t, evK_some, appK_eq, appC_eq, grd_t, srun_nil, srun_cons, stepK_grd, fin_ret, sk_mv, sk_take, sk_give, sk_pick, sk_bin, sk_un, sk_lenS, get_mk, raw_slot, raw_lit, put_some, wb_nil, ev_mv, ev_take, ev_give, ev_pick, ev_not, ev_lenS, bin_gtr, ro_bool, got_str, List.map_cons, List.map_nil, List.getD_cons_zero, List.getD_cons_succ, true_and, Bool.false_eq_true, ↓reduceIte, Bool.not_true, gt_iff_lt]
    first | exact ⟨_, trim1 ho rfl⟩ | exact ⟨_, trim1 ho rfl, rfl⟩ | exact ⟨_, trim1 ho rfl, rfl, rfl⟩ | exact ⟨_, trim1 ho rfl, by simp, rfl⟩ | exact ⟨_, trim1 ho rfl, by simp⟩
  have hb := few_bytes hfew
  have h6' : x.length ≤ 100 := by have := of_decide_eq_false h6; omega
  simp (maxSteps := 2000000) (disch := first | omega | simp only [List.length_append, List.length_cons, List.length_nil, List.length_map] <;> omega) only [h6, r1, l1, t1, getA0, ev_ldA, List.drop_zero, List.set_cons_zero, List.set_cons_succ, apO_some, exc_str, exc_agg, swp_seq, swp_reg, swp_skip, swp_cond, seqK_n, condK_f, evK_some, appK_eq, appC_eq, grd_t, srun_nil, srun_cons, stepK_call, stepK_grd, sk_mv, sk_take, sk_pick, sk_bin, sk_un, sk_load, sk_lenS, get_mk, raw_slot, raw_lit, put_some, wb_nil, ev_mv, ev_take, ev_pick, ev_not, ev_lenS, bin_gtr, ro_bool, ro_agg, got_str, got_agg, pubs, pubsFrom, List.map_cons, List.map_nil, List.getD_cons_zero, List.getD_cons_succ, List.getElem?_cons_zero, Bool.false_eq_true, ↓reduceIte, Nat.zero_add, Bool.not_true, gt_iff_lt, Nat.le_refl]
  refine callK_intro (z20 hmT (few_fitB hfew) okT) ?_
  have hadd := fun s => bin_addS (st := s) (x := bytesF m) (y := x) (by omega)
  have hat := okR_at hR x ((st ++ [Ob.cells m.cells]).length + 3)
  simp (maxSteps := 2000000) (disch := first | omega | simp only [List.length_append, List.length_cons, List.length_nil, List.length_map] <;> omega) only [hadd, List.set_cons_zero, List.set_cons_succ, flg_str, exc_str, swp_seq, swp_reg, seqK_n, evK_some, appK_eq, appC_eq, srun_nil, srun_cons, stepK_call, sk_mv, sk_give, sk_bin, get_mk, raw_slot, put_some, wb_nil, ev_mv, ev_give, ro_str, got_str, pubs, pubsFrom, List.map_cons, List.map_nil, List.getD_cons_zero, List.getD_cons_succ, Bool.false_eq_true, ↓reduceIte]
  by_cases hx0 : x = []
  · subst hx0
    obtain ⟨m2, X, k22, ok2, okX, fit2, fB2, R2, b2, pl2⟩ := z22t (x := bytesF m ++ []) (by rw [List.append_nil]; omega) okT hat
    refine callK_intro k22 ?_
    have eT2 : ∃ y, (st ++ [Ob.cells m.cells]) ++ X = st ++ y := ⟨_, List.append_assoc ..⟩
    generalize (st ++ [Ob.cells m.cells]) ++ X = T2 at ok2 okX eT2 ⊢
    have r2 := ro1_mf ok2
    have sM2 := stM (st := T2) (l := [.cells [.int .i64 0, .int .i64 0, .int .i64 0, .int .i64 0, .int .i64 0, .int .i64 0, .int .i64 0, .nilS]]) (i := 0) rfl rfl ok2
    simp only [List.set_cons_zero, Nat.add_zero] at sM2
    have okU := okM ok2 okX
    have eU : ∃ y, T2 ++ [Ob.cells m2.cells] = st ++ y := by obtain ⟨y, rfl⟩ := eT2; exact ⟨_, List.append_assoc ..⟩
    simp (maxSteps := 2000000) (disch := first | omega | simp only [List.length_append, List.length_cons, List.length_nil, List.length_map] <;> omega) only [sM2, r2, beq_self_eq_true, List.set_cons_zero, List.set_cons_succ, flg_int, flg_agg, exc_int, exc_str, swp_seq, swp_reg, swp_skip, swp_cond, seqK_n, condK_f, evK_some, appK_eq, appC_eq, grd_t, srun_nil, srun_cons, stepK_grd, sk_mv, sk_take, sk_give, sk_pick, sk_bin, sk_eqB, sk_store, sk_lenS, sk_alloc, sk_ext, get_mk, raw_slot, raw_lit, put_some, put_none, wb_nil, ev_mv, ev_take, ev_give, ev_pick, ev_eqB, ev_lenS, ev_ext, bin_eql, bin_lss, bin_geq, bin_eqlS, ev_alloc, ro_int, ro_bool, ro_str, ro_agg, ro_tup, ro2_int, got_int, got_str, List.map_cons, List.map_nil, List.getD_cons_zero, List.getD_cons_succ, List.getElem?_cons_zero, List.getElem?_cons_succ, List.length_nil, Bool.false_eq_true, Option.map_some, ↓reduceIte, List.append_nil, Bool.not_true, ge_iff_le, Int.cast_ofNat_Int]
    generalize T2 ++ [Ob.cells m2.cells] = T9 at okU eU ⊢
    have okT9 := okU
    obtain ⟨y, ey⟩ := eU
    rcases bf (decide (k < (0 : Int))) with d1 | d1
    rotate_left
    · simp (maxSteps := 2000000) (disch := first | omega | simp only [List.length_append, List.length_cons, List.length_nil, List.length_map] <;> omega) only [d1, List.set_cons_zero, List.set_cons_succ, flg_bool, swp_seq, swp_reg, swp_ret, seqK_n, seqK_r, condK_t, evK_some, appK_eq, srun_nil, srun_cons, fin_ret, sk_mv, sk_give, get_mk, raw_slot, put_some, wb_nil, ev_mv, ev_give, ro_bool, List.map_cons, List.map_nil, List.getD_cons_zero, List.getD_cons_succ, true_and, Bool.false_eq_true, ↓reduceIte, reduceCtorEq]
      rw [ey]
      first | exact ⟨_, trim1 ho rfl⟩ | exact ⟨_, trim1 ho rfl, rfl⟩ | exact ⟨_, trim1 ho rfl, rfl, rfl⟩ | exact ⟨_, trim1 ho rfl, by simp, rfl⟩ | exact ⟨_, trim1 ho rfl, by simp⟩
    rcases bf (decide (((bytesF m).length : Int) ≤ k)) with d2 | d2
    rotate_left
    · simp (maxSteps := 2000000) (disch := first | omega | simp only [List.length_append, List.length_cons, List.length_nil, List.length_map] <;> omega) only [d1, d2, List.set_cons_zero, List.set_cons_succ, flg_bool, swp_seq, swp_reg, swp_ret, seqK_n, seqK_r, condK_t, evK_some, appK_eq, srun_nil, srun_cons, fin_ret, sk_mv, sk_give, get_mk, raw_slot, put_some, wb_nil, ev_mv, ev_give, ro_bool, List.map_cons, List.map_nil, List.getD_cons_zero, List.getD_cons_succ, true_and, Bool.false_eq_true, ↓reduceIte]
      rw [ey]
      first | exact ⟨_, trim1 ho rfl⟩ | exact ⟨_, trim1 ho rfl, rfl⟩ | exact ⟨_, trim1 ho rfl, rfl, rfl⟩ | exact ⟨_, trim1 ho rfl, by simp, rfl⟩ | exact ⟨_, trim1 ho rfl, by simp⟩
    have e1 : 0 ≤ k := by simpa using d1
    have e2 : k < ((bytesF m).length : Int) := by simpa using d2
    have hcut : ∀ s, ev s (.slcS false true) [.str (bytesF m), .int .i64 k] = some (.str ((bytesF m).take k.toNat), [], s) := fun s => slcS_hi e1 (by omega)
    simp (maxSteps := 2000000) (disch := first | omega | simp only [List.length_append, List.length_cons, List.length_nil, List.length_map] <;> omega) only [d1, d2, hcut, List.set_cons_zero, List.set_cons_succ, exc_str, swp_seq, swp_reg, swp_skip, seqK_n, condK_f, evK_some, appK_eq, srun_cons, stepK_call, sk_mv, sk_slcS, get_mk, raw_slot, put_some, wb_nil, ev_mv, ro_int, ro_bool, ro_str, got_str, pubs, pubsFrom, List.map_cons, List.map_nil, List.getD_cons_zero, List.getD_cons_succ, Bool.false_eq_true, ↓reduceIte]
    refine callK_intro (z22f (x := (bytesF m).take k.toNat) (by rw [List.length_take]; omega) okT9 (okR_cut hR (by omega) _)) ?_
    have sN9 := stM (st := T9) (l := [.cells [.int .i64 0, .int .i64 0, .int .i64 0, .int .i64 0, .int .i64 0, .int .i64 0, .int .i64 0, .nilS]]) (i := 0) rfl rfl (Mf.none_ok [])
    simp only [List.set_cons_zero, Nat.add_zero] at sN9
    have rN := ro1_mf (Mf.none_ok [])
    simp (maxSteps := 2000000) (disch := first | omega | simp only [List.length_append, List.length_cons, List.length_nil, List.length_map] <;> omega) only [sN9, rN, List.set_cons_zero, List.set_cons_succ, flg_bool, flg_int, flg_agg, exc_int, swp_seq, swp_reg, swp_ret, seqK_n, evK_some, appK_eq, appC_eq, grd_t, srun_nil, srun_cons, stepK_grd, fin_ret, sk_mv, sk_take, sk_give, sk_pick, sk_bin, sk_store, sk_alloc, sk_ext, get_mk, raw_slot, raw_lit, put_some, put_none, wb_nil, ev_mv, ev_take, ev_give, ev_pick, ev_ext, bin_eql, ev_alloc, ro_int, ro_bool, ro_agg, ro_tup, ro2_int, got_int, List.map_cons, List.map_nil, List.getD_cons_zero, List.getD_cons_succ, List.getElem?_cons_zero, List.getElem?_cons_succ, true_and, Bool.false_eq_true, Option.map_some, ↓reduceIte, beq_self_eq_true]
    rw [ey, List.append_assoc]
    first | exact ⟨_, trim1 ho rfl⟩ | exact ⟨_, trim1 ho rfl, rfl⟩ | exact ⟨_, trim1 ho rfl, rfl, rfl⟩ | exact ⟨_, trim1 ho rfl, by simp, rfl⟩ | exact ⟨_, trim1 ho rfl, by simp⟩
  · have hxe : x.isEmpty = false := by cases x <;> first | rfl | exact absurd rfl hx0
    rw [hxe] at hat
    refine callK_intro (z22f (x := bytesF m ++ x) (by rw [List.length_append]; omega) okT hat) ?_
    have okU := okM (Mf.none_ok _) okT
    have eU : ∃ y, (st ++ [Ob.cells m.cells]) ++ [Ob.cells Mf.none.cells] = st ++ y := ⟨_, List.append_assoc ..⟩
    generalize (st ++ [Ob.cells m.cells]) = T2 at *
    have sM2 := stM (st := T2) (l := [.cells [.int .i64 0, .int .i64 0, .int .i64 0, .int .i64 0, .int .i64 0, .int .i64 0, .int .i64 0, .nilS]]) (i := 0) rfl rfl (Mf.none_ok [])
    simp only [List.set_cons_zero, Nat.add_zero] at sM2
    have rN := ro1_mf (Mf.none_ok [])
    have bn := b_nil hx0
    simp (maxSteps := 2000000) (disch := first | omega | simp only [List.length_append, List.length_cons, List.length_nil, List.length_map] <;> omega) only [sM2, rN, bn, beq_self_eq_true, List.set_cons_zero, List.set_cons_succ, flg_int, flg_agg, exc_int, exc_str, swp_seq, swp_reg, swp_skip, swp_cond, seqK_n, condK_f, evK_some, appK_eq, appC_eq, grd_t, srun_nil, srun_cons, stepK_grd, sk_mv, sk_take, sk_give, sk_pick, sk_bin, sk_eqB, sk_store, sk_lenS, sk_alloc, sk_ext, get_mk, raw_slot, raw_lit, put_some, put_none, wb_nil, ev_mv, ev_take, ev_give, ev_pick, ev_eqB, ev_lenS, ev_ext, bin_eql, bin_lss, bin_geq, bin_eqlS, ev_alloc, ro_int, ro_bool, ro_str, ro_agg, ro_tup, ro2_int, got_int, got_str, List.map_cons, List.map_nil, List.getD_cons_zero, List.getD_cons_succ, List.getElem?_cons_zero, List.getElem?_cons_succ, Bool.false_eq_true, Option.map_some, ↓reduceIte, Bool.not_true, Int.reduceBEq, ge_iff_le]
    generalize T2 ++ [Ob.cells Mf.none.cells] = T9 at okU eU ⊢
    have okT9 := okU
    obtain ⟨y, ey⟩ := eU
    rcases bf (decide (k < (0 : Int))) with d1 | d1
    rotate_left
    · simp (maxSteps := 2000000) (disch := first | omega | simp only [List.length_append, List.length_cons, List.length_nil, List.length_map] <;> omega) only [d1, List.set_cons_zero, List.set_cons_succ, flg_bool, swp_seq, swp_reg, swp_ret, seqK_n, seqK_r, condK_t, evK_some, appK_eq, srun_nil, srun_cons, fin_ret, sk_mv, sk_give, get_mk, raw_slot, put_some, wb_nil, ev_mv, ev_give, ro_bool, List.map_cons, List.map_nil, List.getD_cons_zero, List.getD_cons_succ, true_and, Bool.false_eq_true, ↓reduceIte, reduceCtorEq]
      rw [ey]
      first | exact ⟨_, trim1 ho rfl⟩ | exact ⟨_, trim1 ho rfl, rfl⟩ | exact ⟨_, trim1 ho rfl, rfl, rfl⟩ | exact ⟨_, trim1 ho rfl, by simp, rfl⟩ | exact ⟨_, trim1 ho rfl, by simp⟩
    rcases bf (decide (((bytesF m).length : Int) ≤ k)) with d2 | d2
    rotate_left
    · simp (maxSteps := 2000000) (disch := first | omega | simp only [List.length_append, List.length_cons, List.length_nil, List.length_map] <;> omega) only [d1, d2, List.set_cons_zero, List.set_cons_succ, flg_bool, swp_seq, swp_reg, swp_ret, seqK_n, seqK_r, condK_t, evK_some, appK_eq, srun_nil, srun_cons, fin_ret, sk_mv, sk_give, get_mk, raw_slot, put_some, wb_nil, ev_mv, ev_give, ro_bool, List.map_cons, List.map_nil, List.getD_cons_zero, List.getD_cons_succ, true_and, Bool.false_eq_true, ↓reduceIte]
      rw [ey]
      first | exact ⟨_, trim1 ho rfl⟩ | exact ⟨_, trim1 ho rfl, rfl⟩ | exact ⟨_, trim1 ho rfl, rfl, rfl⟩ | exact ⟨_, trim1 ho rfl, by simp, rfl⟩ | exact ⟨_, trim1 ho rfl, by simp⟩
    have e1 : 0 ≤ k := by simpa using d1
    have e2 : k < ((bytesF m).length : Int) := by simpa using d2
    have hcut : ∀ s, ev s (.slcS false true) [.str (bytesF m), .int .i64 k] = some (.str ((bytesF m).take k.toNat), [], s) := fun s => slcS_hi e1 (by omega)
    simp (maxSteps := 2000000) (disch := first | omega | simp only [List.length_append, List.length_cons, List.length_nil, List.length_map] <;> omega) only [d1, d2, hcut, List.set_cons_zero, List.set_cons_succ, exc_str, swp_seq, swp_reg, swp_skip, seqK_n, condK_f, evK_some, appK_eq, srun_cons, stepK_call, sk_mv, sk_slcS, get_mk, raw_slot, put_some, wb_nil, ev_mv, ro_int, ro_bool, ro_str, got_str, pubs, pubsFrom, List.map_cons, List.map_nil, List.getD_cons_zero, List.getD_cons_succ, Bool.false_eq_true, ↓reduceIte]
    refine callK_intro (z22f (x := (bytesF m).take k.toNat) (by rw [List.length_take]; omega) okT9 (okR_cut hR (by omega) _)) ?_
    have sN9 := stM (st := T9) (l := [.cells [.int .i64 0, .int .i64 0, .int .i64 0, .int .i64 0, .int .i64 0, .int .i64 0, .int .i64 0, .nilS]]) (i := 0) rfl rfl (Mf.none_ok [])
    simp only [List.set_cons_zero, Nat.add_zero] at sN9
    have rN := ro1_mf (Mf.none_ok [])
    simp (maxSteps := 2000000) (disch := first | omega | simp only [List.length_append, List.length_cons, List.length_nil, List.length_map] <;> omega) only [sN9, rN, List.set_cons_zero, List.set_cons_succ, flg_bool, flg_int, flg_agg, exc_int, swp_seq, swp_reg, swp_ret, seqK_n, evK_some, appK_eq, appC_eq, grd_t, srun_nil, srun_cons, stepK_grd, fin_ret, sk_mv, sk_take, sk_give, sk_pick, sk_bin, sk_store, sk_alloc, sk_ext, get_mk, raw_slot, raw_lit, put_some, put_none, wb_nil, ev_mv, ev_take, ev_give, ev_pick, ev_ext, bin_eql, ev_alloc, ro_int, ro_bool, ro_agg, ro_tup, ro2_int, got_int, List.map_cons, List.map_nil, List.getD_cons_zero, List.getD_cons_succ, List.getElem?_cons_zero, List.getElem?_cons_succ, true_and, Bool.false_eq_true, Option.map_some, ↓reduceIte, beq_self_eq_true]
    rw [ey, List.append_assoc]
    first | exact ⟨_, trim1 ho rfl⟩ | exact ⟨_, trim1 ho rfl, rfl⟩ | exact ⟨_, trim1 ho rfl, rfl, rfl⟩ | exact ⟨_, trim1 ho rfl, by simp, rfl⟩ | exact ⟨_, trim1 ho rfl, by simp⟩
end Go.Sh.F
namespace Go.Sh.F
open Go.PathLaw Go.Proofs
end Go.Sh.F
namespace Go.Sh.F
open Go.PathLaw Go.Proofs
theorem fin_lt {n i : Nat} (h : i < n) : ((n : Int) - ((i + 1 : Nat) : Int)).toNat < ((n : Int) - (i : Int)).toNat := by omega
end Go.Sh.F
namespace Go.Sh.F
open Go.PathLaw Go.Proofs
def qT (s : W.RdS) : List UInt8 × W.RdS := W.textF s 100
def qA (s : W.RdS) : Int × W.RdS := W.numF (qT s).2 1
def qB (s : W.RdS) : List Int × W.RdS := numsF MX 4 (qA s).2
def qK (s : W.RdS) : Int × W.RdS := W.numF (qB s).2 10
def qC (s : W.RdS) : List Int × W.RdS := numsF MX (qK s).1.toNat (qK s).2
end Go.Sh.F
namespace Go.Sh.F
open Go.PathLaw Go.Proofs
theorem rows_all : ∀ {l : List Pc}, rows l = true → ∀ p ∈ l, rightP p = true
  | [], _, p, hp => by simp at hp
  | [q], h, p, hp => by
    obtain rfl := List.mem_singleton.1 hp
    exact h
  | q :: q2 :: r, h, p, hp => by
    unfold rows at h
    simp only [Bool.and_eq_true] at h
    rcases List.mem_cons.1 hp with rfl | hp
    · exact h.1.1
    · exact rows_all h.2 p hp
def O216 : Orc := O215.add 0 (fun _ _ _ _ => False)
theorem s216 : Sound Tryd.prog O216 := fun f a s r s2 h => h.elim (s215 f a s r s2) (fun k => k.2.elim)
end Go.Sh.F
namespace Go.Sh.Q
open Go.Sh.F
open Go.Proofs
def L4 : List SV := [.int .i64 80, .int .i64 320, .int .i64 1280, .int .i64 5120]
theorem st4 {st : List Ob} {i : Nat} {a b c d : SV} (h : st[i]? = some (.cells [a, b, c, d])) : ev st (.store 4 true) [.ptr i 0, .agg [.int .i64 80, .int .i64 320, .int .i64 1280, .int .i64 5120]] = some (.undef, [], st.set i (.cells L4)) := by
  show (match st[i]? with | some (.cells l) => _ | _ => none) = _
  rw [h]; rfl
theorem k50 (O : Orc) (st : List Ob) (h : okSt st) : swpF O sf66 [] st (fun r st' => r = .agg L4 ∧ st' = st) := by
  have hs := st4 (st := st ++ [.cells [.int .i64 0, .int .i64 0, .int .i64 0, .int .i64 0]]) get_end
  rw [set_end] at hs
  simp (maxSteps := 2000000) (disch := first | omega | simp only [List.length_append, List.length_cons, List.length_nil, List.length_map] <;> omega) only [sf66, hs, exc_int, swp_seq, swp_reg, swp_ret, seqK_n, evK_some, appK_eq, srun_nil, srun_cons, swpF_eq, sk_store, sk_bld, sk_alloc, get_mk, raw_slot, raw_lit, put_some, put_none, wb_nil, ev_bld, ev_alloc, got_int, pubs, pubsFrom, List.map_cons, List.map_nil, List.getD_cons_zero, List.getD_cons_succ, List.set_cons_zero, List.set_cons_succ, List.length_cons, List.length_nil, List.replicate_succ, List.replicate_zero, List.nil_append, Nat.reduceAdd, Nat.reduceSub, Nat.reduceLeDiff, and_true, Bool.false_eq_true, Option.map_some, ↓reduceIte, List.all_cons, List.all_nil, Bool.and_self, List.zip_cons_cons, List.zip_nil_right, fillV, wrCells, cellsV, isCell, Nat.zero_add, Nat.le_refl]
  refine ⟨.agg L4, st, ?_, trim1 h rfl, rfl, rfl⟩
  exact retOf_cell (id := st.length) (l := L4) rfl get_end rfl rfl
def K50 : List SV → List Ob → SV → List Ob → Prop := fun args st r st' => okSt st ∧ args = [] ∧ r = .agg L4 ∧ st' = st
def O29 : Orc := Orc.none.add 66 K50
theorem s29 : Sound Tryd.prog O29 := (Sound.none (P := Tryd.prog)).add c66 (by kernel_rfl) (by
  rintro args st r st' ⟨h, rfl, rfl, rfl⟩
  exact ⟨by simp [sf66], k50 _ _ h⟩)
theorem app_slo4 {st : List Ob} {z : List SV} {id : Nat} (h : st[id]? = some (.cells L4)) :
    ev st (.app 1 8 z) [.sl [] 0 (.excl 1), .slo id 0 4] = some (.sl L4 4 (.excl 1), [(0, .undef)], st) := by
  rw [ev_appO, h, apO_some]
  rfl
theorem k51 (O : Orc) (id : Nat) (st : List Ob) (h : st[id]? = some (.cells L4)) : swpF O sf28 [.slo id 0 4] st (fun r st' => r = .sl L4 4 (.excl 1) ∧ st' = st) := by
  have happ := app_slo4 (z := [.int .i64 0]) h
  simp (maxSteps := 2000000) (disch := first | omega | simp only [List.length_append, List.length_cons, List.length_nil, List.length_map] <;> omega) only [sf28, happ, ro_slo, ev_eqNs3, flg_nilS, flg_excl, swp_seq, swp_reg, swp_skip, swp_ret, swp_cond, seqK_n, condK_f, evK_some, appK_eq, srun_nil, srun_cons, fin_ret, swpF_eq, sk_mv, sk_give, sk_eqN, sk_bsl, sk_app, get_mk, raw_slot, raw_lit, put_some, wb_nil, wb_cons, ev_mv, ev_give, ev_bsl, ro_nilS, ro_excl, pubs, pubsFrom, List.map_cons, List.map_nil, List.getD_cons_zero, List.getD_cons_succ, List.set_cons_zero, List.set_cons_succ, List.getElem?_cons_zero, List.length_cons, List.length_nil, List.replicate_succ, List.replicate_zero, List.cons_append, List.nil_append, Nat.reduceSub, true_and, and_true, Bool.false_eq_true, Option.map_some, ↓reduceIte, List.all_nil, List.zip_nil_right, rep, fillV, List.flatten_nil, Nat.mul_one, Nat.zero_add]
  exact ⟨_, .same, rfl⟩
def K51 : List SV → List Ob → SV → List Ob → Prop := fun args st r st' => st' = st ∧ ∃ id, st[id]? = some (.cells L4) ∧ args = [.slo id 0 4] ∧ r = .sl L4 4 (.excl 1)
def O30 : Orc := O29.add 28 K51
theorem s30 : Sound Tryd.prog O30 := s29.add c28 (by kernel_rfl) (by
  rintro args st r st' ⟨rfl, id, h, rfl, rfl⟩
  exact ⟨by simp [sf28], k51 _ id _ h⟩)
theorem k43 (st : List Ob) (h : okSt st) : swpF O30 sf50 [] st (fun r st' => r = .sl L4 4 (.excl 1) ∧ st' = st) := by
  have hs := st4 (st := st ++ [.cells [.int .i64 0, .int .i64 0, .int .i64 0, .int .i64 0]]) get_end
  rw [set_end] at hs
  have c50 : O30 66 [] st (.agg L4) st := .inl (.inr ⟨rfl, h, rfl, rfl, rfl⟩)
  have c51 : O30 28 [.slo st.length 0 4] (st ++ [.cells L4]) (.sl L4 4 (.excl 1)) (st ++ [.cells L4]) := .inr ⟨rfl, rfl, st.length, get_end, rfl, rfl⟩
  simp (maxSteps := 2000000) (disch := first | omega | simp only [List.length_append, List.length_cons, List.length_nil, List.length_map] <;> omega) only [sf50, flg_nilS, swp_seq, swp_reg, seqK_n, evK_some, appK_eq, srun_nil, srun_cons, stepK_call, swpF_eq, sk_give, raw_lit, put_some, wb_nil, ev_give, ro_nilS, pubs, pubsFrom, List.map_cons, List.map_nil, List.set_cons_zero, List.length_nil, List.replicate_succ, List.replicate_zero, List.nil_append, Nat.reduceSub, Bool.false_eq_true, ↓reduceIte]
  refine callK_intro c50 ?_
  simp (maxSteps := 2000000) (disch := first | omega | simp only [List.length_append, List.length_cons, List.length_nil, List.length_map] <;> omega) only [hs, L4, slcP_all, sk_slcP, got_slo, exc_slo, swp_seq, swp_reg, seqK_n, evK_some, appK_eq, appC_eq, srun_nil, srun_cons, stepK_call, sk_store, sk_alloc, get_mk, raw_slot, put_some, put_none, wb_nil, ev_alloc, pubs, pubsFrom, List.map_cons, List.map_nil, List.getD_cons_zero, List.getD_cons_succ, List.set_cons_zero, List.set_cons_succ, Bool.false_eq_true, ↓reduceIte]
  refine callK_intro c51 ?_
  simp (maxSteps := 2000000) (disch := first | omega | simp only [List.length_append, List.length_cons, List.length_nil, List.length_map] <;> omega) only [flg_excl, swp_ret, seqK_n, evK_some, appK_eq, appC_eq, srun_nil, srun_cons, fin_ret, sk_give, get_mk, raw_slot, put_some, wb_nil, wb_cons, ev_give, ro_excl, List.map_cons, List.map_nil, List.getD_cons_zero, List.getD_cons_succ, List.set_cons_zero, List.set_cons_succ, List.getElem?_cons_zero, ↓reduceIte]
  exact ⟨st, trim1 h rfl, rfl, rfl⟩
def K43 : List SV → List Ob → SV → List Ob → Prop := fun args st r st' => okSt st ∧ args = [] ∧ r = .sl L4 4 (.excl 1) ∧ st' = st
def O31 : Orc := O30.add 50 K43
theorem s31 : Sound Tryd.prog O31 := s30.add c50 (by kernel_rfl) (by
  rintro args st r st' ⟨h, rfl, rfl, rfl⟩
  exact ⟨by simp [sf50], k43 _ h⟩)
def bucketF (n : Int) : Int := if n < 0 then -1 else if n ≤ 76 then 0 else if n ≤ 316 then 1 else if n ≤ 1276 then 2 else if n ≤ 5116 then 3 else -1
theorem k49 (O : Orc) (x n : Int) (id : Nat) (st : List Ob) (h : st[id]? = some (.cells [.int .i64 n])) (h0 : 0 ≤ n) (h1 : n ≤ 16384) : swpF O sf51 [.int .i64 x, .ptr id 0] st (fun r st' => r = .bool (decide (n + 4 ≤ x)) ∧ st' = st) := by
  simp (maxSteps := 2000000) (disch := first | omega | simp only [List.length_append, List.length_cons, List.length_nil, List.length_map] <;> omega) only [sf51, h, flg_bool, swp_seq, swp_reg, swp_ret, seqK_n, evK_some, appK_eq, srun_nil, srun_cons, fin_ret, swpF_eq, sk_mv, sk_give, sk_bin, sk_load, get_mk, raw_slot, raw_lit, put_some, wb_nil, ev_mv, ev_give, bin_add, bin_geq, ev_ldP, ldP_some, ro_int, ro_bool, List.map_cons, List.map_nil, List.getD_cons_zero, List.getD_cons_succ, List.set_cons_zero, List.set_cons_succ, List.getElem?_cons_zero, List.length_cons, List.length_nil, List.replicate_succ, List.replicate_zero, List.cons_append, List.nil_append, Nat.reduceAdd, Nat.reduceSub, true_and, Bool.false_eq_true, Option.map_some, ↓reduceIte, Nat.zero_add, ge_iff_le, wrap_i64]
  exact ⟨_, .same, rfl⟩
def K49 : List SV → List Ob → SV → List Ob → Prop := fun args st r st' => ∃ x n id, st[id]? = some (.cells [.int .i64 n]) ∧ 0 ≤ n ∧ n ≤ 16384 ∧ args = [.int .i64 x, .ptr id 0] ∧ r = .bool (decide (n + 4 ≤ x)) ∧ st' = st
def O32 : Orc := O31.add 51 K49
theorem s32 : Sound Tryd.prog O32 := s31.add c51 (by kernel_rfl) (by
  rintro args st r st' ⟨x, n, id, h, h0, h1, rfl, rfl, rfl⟩
  exact ⟨by simp [sf51], k49 _ x n id _ h h0 h1⟩)
theorem k48 (n : Int) (id : Nat) (st : List Ob) (h : st[id]? = some (.cells [.int .i64 n])) (h0 : 0 ≤ n) (h1 : n ≤ 16384) : swpF O32 sf49 [.sl L4 4 .ro, .fn 51 [] [.ptr id 0]] st (fun r st' => r = .int .i64 (bucketF n) ∧ st' = st) := by
  have c : ∀ x, O32 51 [.int .i64 x, .ptr id 0] st (.bool (decide (n + 4 ≤ x))) st := fun x => .inr ⟨rfl, x, n, id, h, h0, h1, rfl, rfl, rfl⟩
  simp (maxSteps := 2000000) (disch := first | omega | simp only [List.length_append, List.length_cons, List.length_nil, List.length_map] <;> omega) only [sf49, L4, flg_int, swp_seq, swp_reg, swp_block, seqK_n, evK_some, appK_eq, srun_nil, srun_cons, swpF_eq, sk_mv, sk_give, sk_lenL, get_mk, raw_slot, raw_lit, put_some, wb_nil, ev_mv, ev_give, ev_lenL, ro_int, ro_ro, List.map_cons, List.map_nil, List.getD_cons_zero, List.set_cons_zero, List.set_cons_succ, List.length_cons, List.length_nil, List.replicate_succ, List.replicate_zero, List.cons_append, List.nil_append, Nat.reduceAdd, Nat.reduceSub, Bool.false_eq_true, ↓reduceIte, Nat.zero_add, Int.cast_ofNat_Int, Int.reduceNeg]
  refine swp_unroll 5 ?_
  simp (maxSteps := 2000000) (disch := first | omega | simp only [List.length_append, List.length_cons, List.length_nil, List.length_map] <;> omega) only [stepK_callv, callvK_fn, exc_int, exc_fn, sk_idxB, idxB_ro, swp_seq, swp_reg, swp_skip, swp_block, swp_cond, seqK_n, condK_t, evK_some, appK_eq, srun_nil, srun_cons, sk_mv, sk_take, sk_bin, sk_load, get_mk, raw_slot, put_some, wb_nil, ev_mv, ev_take, bin_lss, unr_succ, ev_loadE, ro_int, ro_fn, ro_ro, got_int, pubs, pubsFrom, List.map_cons, List.map_nil, List.getD_cons_zero, List.getD_cons_succ, List.set_cons_zero, List.set_cons_succ, List.getElem?_cons_zero, List.cons_append, List.nil_append, Bool.false_eq_true, Option.map_some, ↓reduceIte, decide_true, Nat.mul_one, Int.reduceLT, Int.reduceToNat, Int.reduceNeg]
  by_cases c0 : n + 4 ≤ 80
  · have d0 : decide (n + 4 ≤ 80) = true := by simp; omega
    have hb : bucketF n = 0 := by unfold bucketF; rw [if_neg (by omega), if_pos (by omega)]
    refine callK_intro (c 80) ?_
    simp (maxSteps := 2000000) (disch := first | omega | simp only [List.length_append, List.length_cons, List.length_nil, List.length_map] <;> omega) only [d0, flg_int, swp_seq, swp_reg, swp_ret, swp_cond, seqK_n, seqK_r, blkK_r, condK_t, evK_some, appK_eq, appC_eq, srun_nil, srun_cons, fin_ret, sk_mv, sk_give, get_mk, raw_slot, put_some, wb_nil, ev_mv, ev_give, unrK_r, ro_int, List.map_cons, List.map_nil, List.getD_cons_zero, List.getD_cons_succ, List.set_cons_zero, List.set_cons_succ, Bool.false_eq_true, ↓reduceIte, Int.reduceNeg]
    exact ⟨_, .same, by rw [hb], rfl⟩
  have d0 : decide (n + 4 ≤ 80) = false := by simp; omega
  refine callK_intro (c 80) ?_
  simp (maxSteps := 2000000) (disch := first | omega | simp only [List.length_append, List.length_cons, List.length_nil, List.length_map] <;> omega) only [d0, stepK_callv, callvK_fn, exc_int, exc_fn, sk_idxB, idxB_ro, swp_seq, swp_reg, swp_skip, swp_block, swp_cond, seqK_n, blkK_n, condK_t, condK_f, evK_some, appK_eq, appC_eq, srun_nil, srun_cons, sk_mv, sk_take, sk_bin, sk_load, get_mk, raw_slot, raw_lit, put_some, wb_nil, ev_mv, ev_take, bin_add, bin_lss, unr_succ, unrK_n, ev_loadE, ro_int, ro_fn, ro_ro, got_int, pubs, pubsFrom, List.map_cons, List.map_nil, List.getD_cons_zero, List.getD_cons_succ, List.set_cons_zero, List.set_cons_succ, List.getElem?_cons_zero, List.getElem?_cons_succ, List.cons_append, List.nil_append, Bool.false_eq_true, Option.map_some, ↓reduceIte, decide_true, Nat.mul_one, Int.reduceLT, Int.reduceAdd, Int.reduceToNat, Int.reduceNeg, wrap_i64]
  by_cases c1 : n + 4 ≤ 320
  · have d0 : decide (n + 4 ≤ 320) = true := by simp; omega
    have hb : bucketF n = 1 := by unfold bucketF; rw [if_neg (by omega), if_neg (by omega), if_pos (by omega)]
    refine callK_intro (c 320) ?_
    simp (maxSteps := 2000000) (disch := first | omega | simp only [List.length_append, List.length_cons, List.length_nil, List.length_map] <;> omega) only [d0, flg_int, swp_seq, swp_reg, swp_ret, swp_cond, seqK_n, seqK_r, blkK_r, condK_t, evK_some, appK_eq, appC_eq, srun_nil, srun_cons, fin_ret, sk_mv, sk_give, get_mk, raw_slot, put_some, wb_nil, ev_mv, ev_give, unrK_r, ro_int, List.map_cons, List.map_nil, List.getD_cons_zero, List.getD_cons_succ, List.set_cons_zero, List.set_cons_succ, Bool.false_eq_true, ↓reduceIte, Int.reduceNeg]
    exact ⟨_, .same, by rw [hb], rfl⟩
  have d0 : decide (n + 4 ≤ 320) = false := by simp; omega
  refine callK_intro (c 320) ?_
  simp (maxSteps := 2000000) (disch := first | omega | simp only [List.length_append, List.length_cons, List.length_nil, List.length_map] <;> omega) only [d0, stepK_callv, callvK_fn, exc_int, exc_fn, sk_idxB, idxB_ro, swp_seq, swp_reg, swp_skip, swp_block, swp_cond, seqK_n, blkK_n, condK_t, condK_f, evK_some, appK_eq, appC_eq, srun_nil, srun_cons, sk_mv, sk_take, sk_bin, sk_load, get_mk, raw_slot, raw_lit, put_some, wb_nil, ev_mv, ev_take, bin_add, bin_lss, unr_succ, unrK_n, ev_loadE, ro_int, ro_fn, ro_ro, got_int, pubs, pubsFrom, List.map_cons, List.map_nil, List.getD_cons_zero, List.getD_cons_succ, List.set_cons_zero, List.set_cons_succ, List.getElem?_cons_zero, List.getElem?_cons_succ, List.cons_append, List.nil_append, Bool.false_eq_true, Option.map_some, ↓reduceIte, decide_true, Nat.mul_one, Int.reduceLT, Int.reduceAdd, Int.reduceToNat, Int.reduceNeg, wrap_i64]
  by_cases c2 : n + 4 ≤ 1280
  · have d0 : decide (n + 4 ≤ 1280) = true := by simp; omega
    have hb : bucketF n = 2 := by unfold bucketF; rw [if_neg (by omega), if_neg (by omega), if_neg (by omega), if_pos (by omega)]
    refine callK_intro (c 1280) ?_
    simp (maxSteps := 2000000) (disch := first | omega | simp only [List.length_append, List.length_cons, List.length_nil, List.length_map] <;> omega) only [d0, flg_int, swp_seq, swp_reg, swp_ret, swp_cond, seqK_n, seqK_r, blkK_r, condK_t, evK_some, appK_eq, appC_eq, srun_nil, srun_cons, fin_ret, sk_mv, sk_give, get_mk, raw_slot, put_some, wb_nil, ev_mv, ev_give, unrK_r, ro_int, List.map_cons, List.map_nil, List.getD_cons_zero, List.getD_cons_succ, List.set_cons_zero, List.set_cons_succ, Bool.false_eq_true, ↓reduceIte, Int.reduceNeg]
    exact ⟨_, .same, by rw [hb], rfl⟩
  have d0 : decide (n + 4 ≤ 1280) = false := by simp; omega
  refine callK_intro (c 1280) ?_
  simp (maxSteps := 2000000) (disch := first | omega | simp only [List.length_append, List.length_cons, List.length_nil, List.length_map] <;> omega) only [d0, stepK_callv, callvK_fn, exc_int, exc_fn, sk_idxB, idxB_ro, swp_seq, swp_reg, swp_skip, swp_block, swp_cond, seqK_n, blkK_n, condK_t, condK_f, evK_some, appK_eq, appC_eq, srun_nil, srun_cons, sk_mv, sk_take, sk_bin, sk_load, get_mk, raw_slot, raw_lit, put_some, wb_nil, ev_mv, ev_take, bin_add, bin_lss, unr_succ, unrK_n, ev_loadE, ro_int, ro_fn, ro_ro, got_int, pubs, pubsFrom, List.map_cons, List.map_nil, List.getD_cons_zero, List.getD_cons_succ, List.set_cons_zero, List.set_cons_succ, List.getElem?_cons_zero, List.getElem?_cons_succ, List.cons_append, List.nil_append, Bool.false_eq_true, Option.map_some, ↓reduceIte, decide_true, Nat.mul_one, Int.reduceLT, Int.reduceAdd, Int.reduceToNat, Int.reduceNeg, wrap_i64]
  by_cases c3 : n + 4 ≤ 5120
  · have d0 : decide (n + 4 ≤ 5120) = true := by simp; omega
    have hb : bucketF n = 3 := by unfold bucketF; rw [if_neg (by omega), if_neg (by omega), if_neg (by omega), if_neg (by omega), if_pos (by omega)]
    refine callK_intro (c 5120) ?_
    simp (maxSteps := 2000000) (disch := first | omega | simp only [List.length_append, List.length_cons, List.length_nil, List.length_map] <;> omega) only [d0, flg_int, swp_seq, swp_reg, swp_ret, swp_cond, seqK_n, seqK_r, blkK_r, condK_t, evK_some, appK_eq, appC_eq, srun_nil, srun_cons, fin_ret, sk_mv, sk_give, get_mk, raw_slot, put_some, wb_nil, ev_mv, ev_give, unrK_r, ro_int, List.map_cons, List.map_nil, List.getD_cons_zero, List.getD_cons_succ, List.set_cons_zero, List.set_cons_succ, Bool.false_eq_true, ↓reduceIte, Int.reduceNeg]
    exact ⟨_, .same, by rw [hb], rfl⟩
  have d0 : decide (n + 4 ≤ 5120) = false := by simp; omega
  have hb : bucketF n = -1 := by unfold bucketF; rw [if_neg (by omega), if_neg (by omega), if_neg (by omega), if_neg (by omega), if_neg (by omega)]
  refine callK_intro (c 5120) ?_
  simp (maxSteps := 2000000) (disch := first | omega | simp only [List.length_append, List.length_cons, List.length_nil, List.length_map] <;> omega) only [d0, flg_int, swp_seq, swp_reg, swp_skip, swp_ret, swp_exit, swp_cond, seqK_n, seqK_e, blkK_n, blkK_e, condK_f, evK_some, appK_eq, appC_eq, srun_nil, srun_cons, fin_ret, sk_mv, sk_give, sk_bin, get_mk, raw_slot, raw_lit, put_some, wb_nil, ev_mv, ev_give, bin_add, bin_lss, unr_succ, unrK_n, unrK_e, ro_int, List.map_cons, List.map_nil, List.getD_cons_zero, List.getD_cons_succ, List.set_cons_zero, List.set_cons_succ, Bool.false_eq_true, ↓reduceIte, decide_false, Int.reduceLT, Int.reduceAdd, Int.reduceNeg, wrap_i64]
  exact ⟨_, .same, by rw [hb], rfl⟩
def K48 : List SV → List Ob → SV → List Ob → Prop := fun args st r st' => st' = st ∧ ∃ n id, st[id]? = some (.cells [.int .i64 n]) ∧ 0 ≤ n ∧ n ≤ 16384 ∧ args = [.sl L4 4 .ro, .fn 51 [] [.ptr id 0]] ∧ r = .int .i64 (bucketF n)
def O33 : Orc := O32.add 49 K48
theorem s33 : Sound Tryd.prog O33 := s32.add c49 (by kernel_rfl) (by
  rintro args st r st' ⟨rfl, n, id, h, h0, h1, rfl, rfl⟩
  exact ⟨by simp [sf49], k48 n id _ h h0 h1⟩)
theorem k39 (n : Int) (st : List Ob) (h : okSt st) : swpF O33 sf25 [.int .i64 n] st (fun r st' => r = .int .i64 (bucketF n) ∧ st' = st) := by
  have hg : (st ++ [.cells [.int .i64 n]])[st.length]? = some (.cells [.int .i64 n]) := get_end
  have hok : okSt (st ++ [.cells [.int .i64 n]]) := okSt_app h rfl
  by_cases h0 : n < 0
  · have d0 : decide (n < 0) = true := by simp; omega
    have hb : bucketF n = -1 := by unfold bucketF; rw [if_pos h0]
    simp (maxSteps := 2000000) (disch := first | omega | simp only [List.length_append, List.length_cons, List.length_nil, List.length_map] <;> omega) only [sf25, hg, d0, grd_t, ev_pick, flg_int, exc_int, swp_seq, swp_reg, swp_ret, swp_cond, seqK_n, seqK_r, condK_t, evK_some, appK_eq, srun_nil, srun_cons, stepK_grd, fin_ret, swpF_eq, sk_mv, sk_give, sk_pick, sk_bin, sk_load, sk_box, get_mk, raw_slot, raw_lit, put_some, wb_nil, ev_mv, ev_give, bin_lss, ev_box, ev_ldP, ldP_some, ro_int, ro_bool, got_int, List.map_cons, List.map_nil, List.getD_cons_zero, List.getD_cons_succ, List.set_cons_zero, List.set_cons_succ, List.getElem?_cons_zero, List.length_cons, List.length_nil, List.replicate_succ, List.replicate_zero, List.cons_append, List.nil_append, Nat.reduceSub, Bool.false_eq_true, Option.map_some, ↓reduceIte, List.all_cons, List.all_nil, Bool.and_self, cellsV, isCell, Nat.zero_add, reduceCtorEq, Int.reduceNeg]
    exact ⟨st, trim1 h rfl, by rw [hb], rfl⟩
  have d0 : decide (n < 0) = false := by simp; omega
  by_cases h1 : n ≤ 16384
  case neg =>
    have d1 : decide (16384 < n) = true := by simp; omega
    have hb : bucketF n = -1 := by unfold bucketF; rw [if_neg h0, if_neg (by omega), if_neg (by omega), if_neg (by omega), if_neg (by omega)]
    simp (maxSteps := 2000000) (disch := first | omega | simp only [List.length_append, List.length_cons, List.length_nil, List.length_map] <;> omega) only [sf25, hg, d0, d1, grd_t, ev_pick, flg_int, exc_int, swp_seq, swp_reg, swp_ret, swp_cond, seqK_n, seqK_r, condK_t, evK_some, appK_eq, srun_nil, srun_cons, stepK_grd, fin_ret, swpF_eq, sk_mv, sk_give, sk_pick, sk_bin, sk_load, sk_box, get_mk, raw_slot, raw_lit, put_some, wb_nil, ev_mv, ev_give, bin_lss, bin_gtr, ev_box, ev_ldP, ldP_some, ro_int, ro_bool, got_int, List.map_cons, List.map_nil, List.getD_cons_zero, List.getD_cons_succ, List.set_cons_zero, List.set_cons_succ, List.getElem?_cons_zero, List.length_cons, List.length_nil, List.replicate_succ, List.replicate_zero, List.cons_append, List.nil_append, Nat.reduceSub, Bool.false_eq_true, Option.map_some, ↓reduceIte, List.all_cons, List.all_nil, Bool.and_self, cellsV, isCell, Nat.zero_add, gt_iff_lt, Int.reduceNeg]
    exact ⟨st, trim1 h rfl, by rw [hb], rfl⟩
  have d1 : decide (16384 < n) = false := by simp; omega
  have c43 : O33 50 [] (st ++ [.cells [.int .i64 n]]) (.sl L4 4 (.excl 1)) (st ++ [.cells [.int .i64 n]]) := .inl (.inl (.inr ⟨rfl, hok, rfl, rfl, rfl⟩))
  have c48 : O33 49 [.sl L4 4 .ro, .fn 51 [] [.ptr st.length 0]] (st ++ [.cells [.int .i64 n]]) (.int .i64 (bucketF n)) (st ++ [.cells [.int .i64 n]]) := .inr ⟨rfl, rfl, n, st.length, hg, by omega, h1, rfl, rfl⟩
  simp (maxSteps := 2000000) (disch := first | omega | simp only [List.length_append, List.length_cons, List.length_nil, List.length_map] <;> omega) only [sf25, hg, d0, d1, grd_t, ev_pick, flg_int, exc_int, swp_seq, swp_reg, swp_skip, swp_cond, seqK_n, condK_f, evK_some, appK_eq, srun_nil, srun_cons, stepK_call, stepK_grd, swpF_eq, sk_mv, sk_give, sk_pick, sk_bin, sk_load, sk_box, get_mk, raw_slot, raw_lit, put_some, wb_nil, ev_mv, ev_give, bin_lss, bin_gtr, ev_box, ev_ldP, ldP_some, ro_int, ro_bool, got_int, pubs, pubsFrom, List.map_cons, List.map_nil, List.getD_cons_zero, List.getD_cons_succ, List.set_cons_zero, List.set_cons_succ, List.getElem?_cons_zero, List.length_cons, List.length_nil, List.replicate_succ, List.replicate_zero, List.cons_append, List.nil_append, Nat.reduceSub, Bool.false_eq_true, Option.map_some, ↓reduceIte, List.all_cons, List.all_nil, Bool.and_self, cellsV, isCell, Nat.zero_add, gt_iff_lt, Int.reduceNeg]
  refine callK_intro c43 ?_
  simp (maxSteps := 2000000) (disch := first | omega | simp only [List.length_append, List.length_cons, List.length_nil, List.length_map] <;> omega) only [show ∀ s i, ev s (.mfn 51 0 1) [.ptr i 0] = some (.fn 51 [] [.ptr i 0], [], s) from fun _ _ => rfl, pub_excl2, exc_fn, exc_excl, evK_some, appK_eq, appC_eq, srun_cons, stepK_call, sk_mfn, get_mk, raw_slot, put_some, wb_nil, got_excl, got_fn, pubs, pubsFrom, List.map_cons, List.map_nil, List.getD_cons_zero, List.getD_cons_succ, List.set_cons_zero, List.set_cons_succ, Bool.false_eq_true, ↓reduceIte]
  refine callK_intro c48 ?_
  simp (maxSteps := 2000000) (disch := first | omega | simp only [List.length_append, List.length_cons, List.length_nil, List.length_map] <;> omega) only [flg_int, swp_ret, seqK_n, evK_some, appK_eq, appC_eq, srun_nil, srun_cons, fin_ret, sk_give, get_mk, raw_slot, put_some, wb_nil, wb_cons, ev_give, ro_int, List.map_cons, List.map_nil, List.getD_cons_zero, List.getD_cons_succ, List.set_cons_zero, List.set_cons_succ, List.getElem?_cons_zero, true_and, Bool.false_eq_true, ↓reduceIte]
  exact ⟨st, trim1 h rfl, rfl⟩
def K39 : List SV → List Ob → SV → List Ob → Prop := fun args st r st' => okSt st ∧ ∃ n, args = [.int .i64 n] ∧ r = .int .i64 (bucketF n) ∧ st' = st
def O34 : Orc := O33.add 25 K39
theorem s34 : Sound Tryd.prog O34 := s33.add c25 (by kernel_rfl) (by
  rintro args st r st' ⟨h, n, rfl, rfl, rfl⟩
  exact ⟨by simp [sf25], k39 n _ h⟩)
end Go.Sh.Q
namespace Go.Sh.F
open Go.PathLaw Go.Proofs
def O217 : Orc := fun f a s r s2 => O216 f a s r s2 ∨ Q.O34 f a s r s2
theorem s217 : Sound Tryd.prog O217 := fun f a s r s2 h => h.elim (s216 f a s r s2) (Q.s34 f a s r s2)
theorem u25 {n : Int} {st : List Ob} (ho : okSt st) : O217 25 [.int .i64 n] st (.int .i64 (Q.bucketF n)) st := .inr (.inr ⟨rfl, ho, n, rfl, rfl, rfl⟩)
def szF : List Pc → Nat
  | [] => 0
  | p :: r => 28 + p.path.length + 4 * p.ch.length + szF r
def fiF : List Pc → Nat
  | [] => 0
  | p :: r => (if p.has then 1 else 0) + fiF r
theorem szF_snoc : ∀ (l : List Pc) (p : Pc), szF (l ++ [p]) = szF l + (28 + p.path.length + 4 * p.ch.length)
  | [], p => by simp [szF]
  | q :: r, p => by rw [List.cons_append, szF, szF, szF_snoc r]; omega
theorem fiF_snoc : ∀ (l : List Pc) (p : Pc), fiF (l ++ [p]) = fiF l + (if p.has then 1 else 0)
  | [], p => by simp [fiF]
  | q :: r, p => by rw [List.cons_append, fiF, fiF, fiF_snoc r]; omega
theorem szF_le : ∀ (l : List Pc), (∀ p ∈ l, p.path.length ≤ 200 ∧ p.ch.length ≤ 30) → szF l ≤ l.length * 348
  | [], _ => by simp [szF]
  | p :: r, h => by
    obtain ⟨a, b⟩ := h p List.mem_cons_self
    have := szF_le r (fun q hq => h q (List.mem_cons_of_mem _ hq))
    rw [szF, List.length_cons]; omega
theorem fiF_le : ∀ (l : List Pc), fiF l ≤ l.length
  | [] => by simp [fiF]
  | p :: r => by
    have := fiF_le r
    rw [fiF, List.length_cons]; split <;> omega
theorem szF_right : ∀ (l : List Pc), (∀ p ∈ l, rightP p = true) → szF l ≤ l.length * 80 + 40 * fiF l
  | [], _ => by simp [szF]
  | p :: r, h => by
    have h1 := h p List.mem_cons_self
    obtain ⟨a, _, _, _, _, b, _⟩ := rightP_facts h1
    have := szF_right r (fun q hq => h q (List.mem_cons_of_mem _ hq))
    rw [szF, fiF, List.length_cons]
    cases hh : p.has with
    | true => simp only [if_true]; omega
    | false =>
      have : p.ch.length = 0 := by
        unfold rightP at h1
        rw [hh] at h1
        simp only [Bool.and_eq_true, Bool.false_eq_true, if_false, beq_iff_eq] at h1
        omega
      simp only [Bool.false_eq_true, if_false]; omega
theorem bytes_len {m : Mf} (h : fewM m = true) : (bytesF m).length = 32 + szF m.ps := by
  obtain ⟨_, h2⟩ := few_facts h
  have : ∀ l : List Pc, (∀ p ∈ l, p.path.length ≤ 200 ∧ p.ch.length ≤ 30) → (l.flatMap pieceB).length = szF l := by
    intro l
    induction l with
    | nil => intro _; rfl
    | cons p l ih =>
      intro hl
      have a := ih (fun q hq => hl q (List.mem_cons_of_mem _ hq))
      obtain ⟨b, c⟩ := hl p List.mem_cons_self
      rw [List.flatMap_cons, List.length_append, a, szF]
      have : (pieceB p).length = 28 + p.path.length + 4 * p.ch.length := by
        unfold pieceB
        rw [List.length_append, List.length_append, nsB_len, nsB_len, W.strB_eq, List.length_append, W.be4_len]
        simp only [sixI, List.length_cons, List.length_nil, List.length_take]
        omega
      omega
  have h3 := this m.ps h2
  unfold bytesF
  rw [List.length_append, nsB_len]
  simp only [headI, List.length_cons, List.length_nil]
  omega
theorem bucket_pos {n : Nat} (h : n ≤ 5116) : decide (0 ≤ Q.bucketF (n : Int)) = true := by
  rw [decide_eq_true_eq]
  unfold Q.bucketF
  split
  · omega
  · split
    · omega
    · split
      · omega
      · split
        · omega
        · split <;> omega
set_option maxHeartbeats 32000000 in
set_option maxRecDepth 50000 in
theorem g9r (m : Mf) (st : List Ob) (hm : m.ok st) (hf : m.fit) (ho : okSt st) : swpF O217 sf9 [.agg m.cells] st (fun r st' => r = .bool true ∧ st' = st) := by
  have okT := okM hm ho
  have hmT := hm.mono [.cells m.cells]
  have r1 := ro1_mf hm
  have c1 := cell_mf hm
  have l1 : m.cells.length = 8 := rfl
  have t1 : m.cells.take 8 = m.cells := rfl
  have g7 : m.cells[7]? = some m.pv := rfl
  have k10 : O217 10 [] (st ++ [.cells m.cells]) (.bool true) (st ++ [.cells m.cells]) := .inl (.inl (z10 okT))
  have k11 : O217 11 [.agg m.cells] (st ++ [.cells m.cells]) (.bool (fewM m)) (st ++ [.cells m.cells]) := .inl (.inl (z11 hmT okT))
  have k18 : O217 18 [.agg m.cells] (st ++ [.cells m.cells]) (.bool (rightM m)) (st ++ [.cells m.cells]) := .inl (.inl (z18 hmT hf okT))
  simp (maxSteps := 2000000) (disch := first | omega | simp only [List.length_append, List.length_cons, List.length_nil, List.length_map] <;> omega) only [sf9, r1, c1, cv_agg, List.set_cons_zero, List.set_cons_succ, flg_bool, exc_agg, swp_seq, swp_reg, seqK_n, evK_some, appK_eq, srun_nil, srun_cons, stepK_call, swpF_eq, sk_give, sk_box, get_mk, raw_slot, raw_lit, put_some, wb_nil, ev_give, ev_box, ro_bool, got_agg, pubs, pubsFrom, List.map_cons, List.map_nil, List.getD_cons_zero, List.length_cons, List.length_nil, List.replicate_succ, List.replicate_zero, List.cons_append, List.nil_append, Nat.reduceSub, Bool.false_eq_true, ↓reduceIte, Nat.zero_add]
  refine callK_intro k10 ?_
  simp (maxSteps := 2000000) (disch := first | omega | simp only [List.length_append, List.length_cons, List.length_nil, List.length_map] <;> omega) only [r1, l1, t1, getA0, ev_ldA, List.drop_zero, List.set_cons_zero, List.set_cons_succ, apO_some, flg_bool, exc_agg, swp_seq, swp_reg, seqK_n, evK_some, appK_eq, appC_eq, srun_nil, srun_cons, stepK_call, sk_give, sk_load, get_mk, raw_slot, put_some, wb_nil, ev_give, ro_bool, ro_agg, got_agg, pubs, pubsFrom, List.map_cons, List.map_nil, List.getD_cons_zero, List.getD_cons_succ, List.getElem?_cons_zero, Bool.false_eq_true, ↓reduceIte, Nat.zero_add, Nat.le_refl]
  refine callK_intro k11 ?_
  cases hfew : fewM m with
  | false =>
    simp (maxSteps := 2000000) (disch := first | omega | simp only [List.length_append, List.length_cons, List.length_nil, List.length_map] <;> omega) only [List.set_cons_zero, List.set_cons_succ, flg_bool, swp_seq, swp_reg, swp_ret, swp_cond, seqK_n, seqK_r, condK_t, evK_some, appK_eq, appC_eq, grd_t, srun_nil, srun_cons, stepK_grd, fin_ret, sk_mv, sk_give, sk_pick, sk_un, get_mk, raw_slot, raw_lit, put_some, wb_nil, ev_mv, ev_give, ev_pick, ev_not, ro_bool, List.map_cons, List.map_nil, List.getD_cons_zero, List.getD_cons_succ, true_and, Bool.false_eq_true, ↓reduceIte, reduceCtorEq, Bool.not_false]
    first | exact ⟨_, trim1 ho rfl⟩ | exact ⟨_, trim1 ho rfl, rfl⟩ | exact ⟨_, trim1 ho rfl, rfl, rfl⟩ | exact ⟨_, trim1 ho rfl, by simp, rfl⟩ | exact ⟨_, trim1 ho rfl, by simp⟩
  | true =>
  simp (maxSteps := 2000000) (disch := first | omega | simp only [List.length_append, List.length_cons, List.length_nil, List.length_map] <;> omega) only [r1, l1, t1, getA0, ev_ldA, List.drop_zero, List.set_cons_zero, List.set_cons_succ, apO_some, flg_bool, exc_agg, swp_seq, swp_reg, seqK_n, evK_some, appK_eq, appC_eq, grd_t, srun_nil, srun_cons, stepK_call, stepK_grd, sk_mv, sk_give, sk_un, sk_load, get_mk, raw_slot, put_some, wb_nil, ev_mv, ev_give, ev_not, ro_bool, ro_agg, got_agg, pubs, pubsFrom, List.map_cons, List.map_nil, List.getD_cons_zero, List.getD_cons_succ, List.getElem?_cons_zero, Bool.false_eq_true, ↓reduceIte, Nat.zero_add, Bool.not_true, Nat.le_refl]
  refine callK_intro k18 ?_
  cases hR : rightM m with
  | false =>
    simp (maxSteps := 2000000) (disch := first | omega | simp only [List.length_append, List.length_cons, List.length_nil, List.length_map] <;> omega) only [List.set_cons_zero, List.set_cons_succ, flg_bool, swp_seq, swp_reg, swp_ret, swp_cond, seqK_n, seqK_r, condK_t, evK_some, appK_eq, appC_eq, grd_t, srun_nil, srun_cons, stepK_grd, fin_ret, sk_mv, sk_give, sk_pick, sk_un, get_mk, raw_slot, raw_lit, put_some, wb_nil, ev_mv, ev_give, ev_pick, ev_not, ro_bool, List.map_cons, List.map_nil, List.getD_cons_zero, List.getD_cons_succ, true_and, Bool.false_eq_true, ↓reduceIte, Bool.not_false]
    first | exact ⟨_, trim1 ho rfl⟩ | exact ⟨_, trim1 ho rfl, rfl⟩ | exact ⟨_, trim1 ho rfl, rfl, rfl⟩ | exact ⟨_, trim1 ho rfl, by simp, rfl⟩ | exact ⟨_, trim1 ho rfl, by simp⟩
  | true =>
  have k20 : O217 20 [.agg m.cells] (st ++ [.cells m.cells]) (.str (bytesF m)) (st ++ [.cells m.cells]) := .inl (.inl (z20 hmT (few_fitB hfew) okT))
  obtain ⟨hn60, hfew2⟩ := few_facts hfew
  have hlen := bytes_len hfew
  have hsz : szF m.ps ≤ 20880 := by have := szF_le m.ps hfew2; omega
  have hfi := fiF_le m.ps
  have hpos : fiF m.ps ≤ 16 → (bytesF m).length ≤ 5116 := by
    intro h
    have hr := hR
    unfold rightM at hr
    simp only [Bool.and_eq_true, decide_eq_true_eq] at hr
    have := szF_right m.ps (rows_all hr.1.2)
    omega
  have a1 := fun i (hi : i < m.ps.length) => hm.path hi [.cells m.cells]
  have a2 := fun i (hi : i < m.ps.length) => hm.chs hi [.cells m.cells]
  have a3 := fun i (hi : i < m.ps.length) => hm.1.ld1 (k := i * 7 + 1) (c := .bool m.ps[i].has) (by rw [flat_get (pc_len _) (List.getElem?_eq_getElem hi) (by omega)]; rfl) [.cells m.cells]
  have f0 := fun i (hi : i < m.ps.length) => hm.f0 hi
  have f3 := fun i (hi : i < m.ps.length) => hm.f3 hi
  have f1 := fun i (hi : i < m.ps.length) (s : List Ob) => hm.1.fld (by omega) (i * 7) 1 s
  have ib := fun i (hi : i < m.ps.length) => hm.1.idxB hi .i64
  have ia := fun i (hi : i < m.ps.length) => hm.1.idxA hi .i64
  have cq := fun i (hi : i < m.ps.length) => (hm.2.2 _ (List.getElem_mem hi)).1.lenL
  have cf := fun i (hi : i < m.ps.length) => (hm.2.2 _ (List.getElem_mem hi)).1.facts
  obtain ⟨q1, q2, q3, q4, q6, q7⟩ := hm.1.facts
  have q5 := hm.1.lenL
  simp (maxSteps := 2000000) (disch := first | omega | simp only [List.length_append, List.length_cons, List.length_nil, List.length_map] <;> omega) only [List.set_cons_zero, List.set_cons_succ, exc_int, swp_seq, swp_reg, swp_skip, swp_block, swp_cond, seqK_n, condK_f, evK_some, appK_eq, appC_eq, grd_t, srun_nil, srun_cons, stepK_grd, sk_take, sk_pick, sk_un, get_mk, raw_slot, raw_lit, put_some, wb_nil, ev_take, ev_pick, ev_not, ro_bool, got_int, List.map_cons, List.map_nil, List.getD_cons_zero, List.getD_cons_succ, Bool.false_eq_true, ↓reduceIte, Bool.not_true]
  refine swp_lp (fun S => ∃ (i : Nat) (b : Int), i ≤ m.ps.length ∧ b = ((32 + szF (m.ps.take i) : Nat) : Int) ∧ S = ⟨[.undef, .ptr st.length 0, .undef, .bool true, .undef, .int .i64 b, .int .i64 i] ++ List.replicate 74 .undef, st ++ [.cells m.cells]⟩)
      (fun S => match S.get 6 with | .int _ k => ((m.ps.length : Int) - k).toNat | _ => 0)
      ⟨[.undef, .ptr st.length 0, .undef, .bool true, .undef, .int .i64 32, .int .i64 0] ++ List.replicate 74 .undef, st ++ [.cells m.cells]⟩ ?_ ⟨0, 32, Nat.zero_le _, rfl, rfl⟩ ?_
  · refine Forget.of ?_
    repeat first | exact fg_e | refine fg_d ?_ | refine fg_k rfl ?_
  rintro S ⟨i, b, hi, hb, rfl⟩
  by_cases him : i = m.ps.length
  · have hd : decide ((i : Int) < (m.ps.length : Int)) = false := by rw [decide_eq_false_iff_not]; omega
    rw [him, List.take_length, ← hlen] at hb
    subst hb
    simp (maxSteps := 2000000) (disch := first | omega | simp only [List.length_append, List.length_cons, List.length_nil, List.length_map] <;> omega) only [hd, g7, q1, q5, getA0, List.set_cons_zero, List.set_cons_succ, lpK_e, exc_int, swp_seq, swp_reg, swp_exit, swp_block, swp_cond, seqK_n, seqK_e, blkK_e, condK_f, evK_some, appK_eq, srun_nil, srun_cons, sk_mv, sk_take, sk_bin, sk_fld, sk_load, sk_lenL, get_mk, raw_slot, raw_lit, put_some, wb_nil, ev_mv, ev_take, ev_fld, bin_lss, ev_ldP, ldP_some, ro_int, got_int, List.map_cons, List.map_nil, List.getD_cons_zero, List.getD_cons_succ, List.getElem?_cons_zero, List.length_cons, List.length_nil, List.replicate_succ, List.replicate_zero, List.cons_append, List.nil_append, Bool.false_eq_true, Option.map_some, ↓reduceIte, Nat.zero_add, List.length_append]
    refine swp_lp (fun S => ∃ (i : Nat) (b : Int), i ≤ m.ps.length ∧ b = ((fiF (m.ps.take i) : Nat) : Int) ∧ S = ⟨[.undef, .ptr st.length 0, .undef, .bool true, .undef, .int .i64 ((bytesF m).length : Int), .undef, .int .i64 b, .int .i64 i] ++ List.replicate 72 .undef, st ++ [.cells m.cells]⟩)
        (fun S => match S.get 8 with | .int _ k => ((m.ps.length : Int) - k).toNat | _ => 0)
        ⟨[.undef, .ptr st.length 0, .undef, .bool true, .undef, .int .i64 ((bytesF m).length : Int), .undef, .int .i64 0, .int .i64 0] ++ List.replicate 72 .undef, st ++ [.cells m.cells]⟩ ?_ ⟨0, 0, Nat.zero_le _, rfl, rfl⟩ ?_
    · refine Forget.of ?_
      repeat first | exact fg_e | refine fg_d ?_ | refine fg_k rfl ?_
    clear hi him hd
    rintro S ⟨i, b, hi, hb, rfl⟩
    by_cases him : i = m.ps.length
    · have hd : decide ((i : Int) < (m.ps.length : Int)) = false := by rw [decide_eq_false_iff_not]; omega
      rw [him, List.take_length] at hb
      simp (maxSteps := 2000000) (disch := first | omega | simp only [List.length_append, List.length_cons, List.length_nil, List.length_map] <;> omega) only [hd, g7, r1, l1, t1, q1, q5, getA0, ev_ldA, List.drop_zero, List.set_cons_zero, List.set_cons_succ, lpK_e, apO_some, exc_agg, swp_seq, swp_reg, swp_exit, swp_cond, seqK_n, seqK_e, blkK_e, condK_f, evK_some, appK_eq, srun_nil, srun_cons, stepK_call, sk_mv, sk_bin, sk_fld, sk_load, sk_lenL, get_mk, raw_slot, put_some, wb_nil, ev_mv, ev_fld, bin_lss, ev_ldP, ldP_some, ro_int, ro_agg, got_agg, pubs, pubsFrom, List.map_cons, List.map_nil, List.getD_cons_zero, List.getD_cons_succ, List.getElem?_cons_zero, List.length_cons, List.length_nil, List.replicate_succ, List.replicate_zero, List.cons_append, List.nil_append, Bool.false_eq_true, Option.map_some, ↓reduceIte, Nat.zero_add, List.length_append, Nat.le_refl]
      refine callK_intro k20 ?_
      have hee : ∀ s, ev s (.bin .eql) [.int .i64 ((bytesF m).length : Int), .int .i64 ((bytesF m).length : Int)] = some (.bool true, [], s) := fun s => by rw [bin_eql]; simp
      rcases bf (decide ((16 : Int) < b)) with h16 | h16
      · have h16' : fiF m.ps ≤ 16 := by have := of_decide_eq_false h16; omega
        have hp := bucket_pos (hpos h16')
        simp (maxSteps := 2000000) (disch := first | omega | simp only [List.length_append, List.length_cons, List.length_nil, List.length_map] <;> omega) only [hee, h16, List.set_cons_zero, List.set_cons_succ, flg_str, exc_bool, exc_int, exc_str, swp_seq, swp_reg, seqK_n, evK_some, appK_eq, appC_eq, grd_t, srun_nil, srun_cons, stepK_call, stepK_grd, sk_mv, sk_take, sk_give, sk_pick, sk_bin, sk_lenS, get_mk, raw_slot, raw_lit, put_some, wb_nil, ev_mv, ev_take, ev_give, ev_pick, ev_lenS, bin_gtr, ro_bool, ro_str, got_int, got_bool, got_str, pubs, pubsFrom, List.map_cons, List.map_nil, List.getD_cons_zero, List.getD_cons_succ, Bool.false_eq_true, ↓reduceIte, gt_iff_lt]
        refine callK_intro (u25 okT) ?_
        simp (maxSteps := 2000000) (disch := first | omega | simp only [List.length_append, List.length_cons, List.length_nil, List.length_map] <;> omega) only [hp, List.set_cons_zero, List.set_cons_succ, flg_bool, swp_ret, seqK_n, evK_some, appK_eq, appC_eq, grd_t, srun_nil, srun_cons, stepK_grd, fin_ret, sk_give, sk_pick, sk_bin, get_mk, raw_slot, raw_lit, put_some, wb_nil, ev_give, ev_pick, bin_geq, ro_bool, List.map_cons, List.map_nil, List.getD_cons_zero, List.getD_cons_succ, true_and, Bool.false_eq_true, ↓reduceIte, ge_iff_le]
        first | exact ⟨_, trim1 ho rfl⟩ | exact ⟨_, trim1 ho rfl, rfl⟩ | exact ⟨_, trim1 ho rfl, rfl, rfl⟩ | exact ⟨_, trim1 ho rfl, by simp, rfl⟩ | exact ⟨_, trim1 ho rfl, by simp⟩
      · simp (maxSteps := 2000000) (disch := first | omega | simp only [List.length_append, List.length_cons, List.length_nil, List.length_map] <;> omega) only [hee, h16, List.set_cons_zero, List.set_cons_succ, flg_bool, flg_str, exc_bool, exc_int, exc_str, swp_seq, swp_reg, swp_ret, seqK_n, evK_some, appK_eq, appC_eq, grd_t, srun_nil, srun_cons, stepK_grd, fin_ret, sk_mv, sk_take, sk_give, sk_pick, sk_bin, sk_lenS, get_mk, raw_slot, raw_lit, put_some, wb_nil, ev_mv, ev_take, ev_give, ev_pick, ev_lenS, bin_gtr, ro_bool, ro_str, got_int, got_bool, got_str, List.map_cons, List.map_nil, List.getD_cons_zero, List.getD_cons_succ, true_and, Bool.false_eq_true, ↓reduceIte, reduceCtorEq, gt_iff_lt]
        first | exact ⟨_, trim1 ho rfl⟩ | exact ⟨_, trim1 ho rfl, rfl⟩ | exact ⟨_, trim1 ho rfl, rfl, rfl⟩ | exact ⟨_, trim1 ho rfl, by simp, rfl⟩ | exact ⟨_, trim1 ho rfl, by simp⟩
    have hd : decide ((i : Int) < (m.ps.length : Int)) = true := by rw [decide_eq_true_eq]; omega
    have hil : i < m.ps.length := by omega
    have fin := fin_lt hil
    have b5 := ib i hil
    have b6 := f1 i hil
    have b7 := a3 i hil
    have hsn := fiF_snoc (m.ps.take i) m.ps[i]
    rw [List.take_append_getElem hil] at hsn
    have hfb : fiF (m.ps.take i) ≤ 60 := by have := fiF_le (m.ps.take i); rw [List.length_take] at this; omega
    cases hh : m.ps[i].has with
    | true =>
      rw [hh] at b7 hsn
      simp only [if_true] at hsn
      simp (maxSteps := 2000000) (disch := first | omega | simp only [List.length_append, List.length_cons, List.length_nil, List.length_map] <;> omega) only [hd, g7, b5, b6, b7, q1, q5, getA0, List.set_cons_zero, List.set_cons_succ, lpK_n, flg_int, sk_idxB, swp_seq, swp_reg, swp_skip, swp_block, swp_cond, seqK_n, blkK_n, condK_t, evK_some, appK_eq, srun_nil, srun_cons, sk_mv, sk_give, sk_bin, sk_fld, sk_load, sk_lenL, get_mk, raw_slot, raw_lit, put_some, wb_nil, ev_mv, ev_give, ev_fld, bin_add, bin_lss, ev_ldP, ldP_some, ro_int, ro_bool, List.map_cons, List.map_nil, List.getD_cons_zero, List.getD_cons_succ, List.getElem?_cons_zero, List.length_cons, List.length_nil, List.replicate_succ, List.replicate_zero, List.cons_append, List.nil_append, Bool.false_eq_true, Option.map_some, ↓reduceIte, Nat.zero_add, wrap_i64, List.length_append]
      refine ⟨_, ?_, ⟨i + 1, b + 1, by omega, by omega, rfl⟩, by exact fin⟩
      refine Forget.of ?_
      repeat first | exact fg_e | refine fg_d ?_ | refine fg_k rfl ?_
    | false =>
      rw [hh] at b7 hsn
      simp only [Bool.false_eq_true, if_false] at hsn
      simp (maxSteps := 2000000) (disch := first | omega | simp only [List.length_append, List.length_cons, List.length_nil, List.length_map] <;> omega) only [hd, g7, b5, b6, b7, q1, q5, getA0, List.set_cons_zero, List.set_cons_succ, lpK_n, flg_int, sk_idxB, swp_seq, swp_reg, swp_skip, swp_block, swp_cond, seqK_n, blkK_n, condK_t, condK_f, evK_some, appK_eq, srun_nil, srun_cons, sk_mv, sk_give, sk_bin, sk_fld, sk_load, sk_lenL, get_mk, raw_slot, raw_lit, put_some, wb_nil, ev_mv, ev_give, ev_fld, bin_add, bin_lss, ev_ldP, ldP_some, ro_int, ro_bool, List.map_cons, List.map_nil, List.getD_cons_zero, List.getD_cons_succ, List.getElem?_cons_zero, List.length_cons, List.length_nil, List.replicate_succ, List.replicate_zero, List.cons_append, List.nil_append, Bool.false_eq_true, Option.map_some, ↓reduceIte, Nat.zero_add, wrap_i64, List.length_append]
      refine ⟨_, ?_, ⟨i + 1, b, by omega, by omega, rfl⟩, by exact fin⟩
      refine Forget.of ?_
      repeat first | exact fg_e | refine fg_d ?_ | refine fg_k rfl ?_
  have hd : decide ((i : Int) < (m.ps.length : Int)) = true := by rw [decide_eq_true_eq]; omega
  have hil : i < m.ps.length := by omega
  have fin := fin_lt hil
  have b1 := a1 i hil
  have b2 := a2 i hil
  have b3 := f0 i hil
  have b4 := f3 i hil
  have b5 := ia i hil
  have b6 := cq i hil
  obtain ⟨c1', c2, c3, c4, c6, c7⟩ := cf i hil
  have hsn := szF_snoc (m.ps.take i) m.ps[i]
  rw [List.take_append_getElem hil] at hsn
  obtain ⟨d1, d2⟩ := hfew2 _ (List.getElem_mem hil)
  have hfb : szF (m.ps.take i) ≤ 20880 := by
    have := szF_le (m.ps.take i) (fun p hp => hfew2 p (List.mem_of_mem_take hp)); rw [List.length_take] at this; omega
  simp (maxSteps := 2000000) (disch := first | omega | simp only [List.length_append, List.length_cons, List.length_nil, List.length_map] <;> omega) only [hd, g7, b1, b2, b3, b4, b5, b6, q1, q5, getA0, List.set_cons_zero, List.set_cons_succ, lpK_n, flg_int, swp_seq, swp_reg, swp_skip, swp_block, swp_cond, seqK_n, blkK_n, condK_t, evK_some, appK_eq, srun_nil, srun_cons, sk_mv, sk_give, sk_bin, sk_fld, sk_idxA, sk_load, sk_lenS, sk_lenL, get_mk, raw_slot, raw_lit, put_some, wb_nil, ev_mv, ev_give, ev_fld, ev_lenS, bin_add, bin_mul, bin_lss, ev_ldP, ldP_some, ro_int, List.map_cons, List.map_nil, List.getD_cons_zero, List.getD_cons_succ, List.getElem?_cons_zero, List.length_cons, List.length_nil, List.replicate_succ, List.replicate_zero, List.cons_append, List.nil_append, Bool.false_eq_true, Option.map_some, ↓reduceIte, Nat.zero_add, wrap_i64, List.length_append]
  refine ⟨_, ?_, ⟨i + 1, b + 28 + (m.ps[i].path.length : Int) + 4 * (m.ps[i].ch.length : Int), by omega, by omega, rfl⟩, by exact fin⟩
  refine Forget.of ?_
  repeat first | exact fg_e | refine fg_d ?_ | refine fg_k rfl ?_
end Go.Sh.F
