/-
  Records: what Read tells, in plain words, and pieces as a callee.
  Records: Read, in the shadow machine.
  Records: Read as a callee, and the small manifest.
  Records: the small manifest that all laws look at first, in the shadow machine.
  Records: what is written is read back, and what is read was written; in plain words.
  Records: what is read was written; in plain words.
  Records: RecordBack, in the shadow machine.
  Records: what a copy is while it is spoilt.
  Records: RecordTells, in the shadow machine.
  Records: the document's Read, in the shadow machine.
  Records: the document's Read tells what Read tells; RecordReads, in the shadow machine.
-/
import Derived.Test.YtlknoahpliaigaaDoorRcM
import Derived.Test.YtlknoahpliaigaaDoorGrM
set_option linter.unusedSimpArgs false
set_option linter.unusedVariables false
namespace Go.Sh.F
open Go.PathLaw Go.Proofs
def O212 : Orc := O211.add 43 (KRun O211 sf43)
theorem s212 : Sound Tryd.prog O212 := s211.add c43 (by kernel_rfl) (by
  rintro args r st r' ⟨h, hr⟩
  exact ⟨h, hr⟩)
theorem stR3 {st : List Ob} {A B : Ob} {c0 : List SV} {v : SV} {s : W.RdS} : stR (st ++ [A, B, .cells c0]) (st.length + 2) v s = st ++ [A, B, .cells [v, .int .i64 s.p, .int .i64 s.e]] := by
  unfold stR; rw [setA]; rfl
theorem xPc {st : List Ob} {v : SV} {s : W.RdS} (hs : rdOk v s) (A B : Ob) (l : List Ob) :
    O212 43 [.ptr (st.length + 2) 0] (st ++ (A :: B :: .cells [v, .int .i64 s.p, .int .i64 s.e] :: l)) (.agg (pcF (st.length + 3 + (l.length + 2)) s).cells)
      (st ++ (A :: B :: .cells [v, .int .i64 (pC s).2.p, .int .i64 (pC s).2.e] :: (l ++ [.cells (pcF (st.length + 3 + (l.length + 2)) s).cells, .cells (pcF (st.length + 3 + (l.length + 2)) s).cells, .cells (isv (pC s).1)]))) := by
  have h := g43p (st ++ [A, B, .cells [v, .int .i64 s.p, .int .i64 s.e]]) (st.length + 2) v s l (by simp) hs
  rw [stR3, stR3] at h
  rw [show (st ++ [A, B, .cells [v, .int .i64 s.p, .int .i64 s.e]]).length = st.length + 3 by simp] at h
  simp only [List.append_assoc, List.cons_append, List.nil_append] at h
  exact .inr ⟨rfl, by simp [sf43], h⟩
theorem pC_err {s : W.RdS} (h : s.e ≠ 0) : (pC s).2 = s := by
  have hn : ∀ (m : Int) (k : Nat), (numsF m k s).2 = s := by
    intro m k
    induction k with
    | zero => rfl
    | succ k ih => rw [numsF_snoc]; simp only [ih]; rw [W.numF_err h]
  have h1 : (pT s).2 = s := by unfold pT; rw [W.textF_err h]
  have h2 : (pA s).2 = s := by unfold pA; rw [h1, W.numF_err h]
  have h3 : (pB s).2 = s := by unfold pB; rw [h2]; exact hn _ _
  have h4 : (pK s).2 = s := by unfold pK; rw [h3, W.numF_err h]
  unfold pC; rw [h4]; exact hn _ _
theorem rdOk_pC {v : SV} {s : W.RdS} (h : rdOk v s) : rdOk v (pC s).2 ∧ (pC s).2.l = s.l := by
  obtain ⟨a1, b1⟩ := rdOk_text h 52
  obtain ⟨a2, b2⟩ := rdOk_num a1 1
  obtain ⟨a3, b3, _⟩ := rdOk_nums (most := MX) 4 a2
  obtain ⟨a4, b4⟩ := rdOk_num a3 10
  obtain ⟨a5, b5, _⟩ := rdOk_nums (most := MX) (W.numF (numsF MX 4 (W.numF (W.textF s 52).2 1).2).2 10).1.toNat a4
  exact ⟨a5, by rw [show (pC s).2.l = (numsF MX (W.numF (numsF MX 4 (W.numF (W.textF s 52).2 1).2).2 10).1.toNat (W.numF (numsF MX 4 (W.numF (W.textF s 52).2 1).2).2 10).2).2.l from rfl, b5, b4, b3, b2, b1]⟩
def psF (b : Nat) : Nat → W.RdS → List Pc × W.RdS
  | 0, s => ([], s)
  | k + 1, s => ((psF b k s).1 ++ [pcF (b + (3 * k + 2)) (psF b k s).2], (pC (psF b k s).2).2)
theorem psF_len (b : Nat) : ∀ (k : Nat) (s : W.RdS), (psF b k s).1.length = k
  | 0, s => rfl
  | k + 1, s => by rw [psF, List.length_append, psF_len b k s]; rfl
theorem rdOk_ps {v : SV} (b : Nat) : ∀ (k : Nat) {s : W.RdS}, rdOk v s → rdOk v (psF b k s).2 ∧ (psF b k s).2.l = s.l
  | 0, s, h => ⟨h, rfl⟩
  | k + 1, s, h => by
    obtain ⟨h1, h2⟩ := rdOk_ps b k h
    obtain ⟨h3, h4⟩ := rdOk_pC h1
    exact ⟨h3, h4.trans h2⟩
theorem psF_err (b : Nat) (s : W.RdS) {i : Nat} (h : (psF b i s).2.e ≠ 0) : ∀ j, (psF b (i + j) s).2 = (psF b i s).2
  | 0 => rfl
  | j + 1 => by
    have := psF_err b s h j
    show (pC (psF b (i + j) s).2).2 = _
    rw [this, pC_err h]
def pcObs (l : List Pc) : List Ob := l.flatMap fun p => [.cells p.cells, .cells p.cells, .cells (isv p.ch)]
theorem pcObs_len (l : List Pc) : (pcObs l).length = 3 * l.length := by
  induction l with
  | nil => rfl
  | cons p l ih => rw [pcObs, List.flatMap_cons, List.length_append]; unfold pcObs at ih; rw [ih, List.length_cons]; simp only [List.length_cons, List.length_nil]; omega
theorem pcObs_snoc (l : List Pc) (p : Pc) : pcObs (l ++ [p]) = pcObs l ++ [.cells p.cells, .cells p.cells, .cells (isv p.ch)] := by
  unfold pcObs; rw [List.flatMap_append, List.flatMap_cons, List.flatMap_nil, List.append_nil]
def pvS (f : Fl) : List Pc → SV
  | [] => .nilS
  | p :: l => .sl ((p :: l).flatMap Pc.cells) (l.length + 1) f
theorem pvS_ne (f : Fl) {l : List Pc} (h : l ≠ []) : pvS f l = .sl (l.flatMap Pc.cells) l.length f := by
  cases l with
  | nil => exact absurd rfl h
  | cons => rfl
def hdS (x : List UInt8) : List Int × W.RdS := numsF MX 7 ⟨x, 0, 0⟩
def rdN (x : List UInt8) : Int × W.RdS := W.numF (hdS x).2 32
def rdP (b : Nat) (x : List UInt8) : List Pc × W.RdS := psF b (rdN x).1.toNat (rdN x).2
def mfR (f : Fl) (b : Nat) (x : List UInt8) : Mf := ⟨(hdS x).1.getD 0 0, (hdS x).1.getD 1 0, (hdS x).1.getD 2 0, (hdS x).1.getD 3 0, (hdS x).1.getD 4 0, (hdS x).1.getD 5 0, (hdS x).1.getD 6 0, pvS f (rdP b x).1, (rdP b x).1⟩
def okR (b : Nat) (x : List UInt8) : Bool := (W.endF (rdP b x).2).e == 0 && rightM (mfR .ro b x)
def rdM (st : List Ob) (x : List UInt8) : Mf := if okR (st.length + 3) x = true then mfR .ro (st.length + 3) x else Mf.none
def rdC (st : List Ob) (x : List UInt8) : Int := if okR (st.length + 3) x = true then 0 else 4
def rdT (st : List Ob) (x : List UInt8) : List Ob := if okR (st.length + 3) x = true then st ++ (.cells (mfR .ro (st.length + 3) x).cells :: .cells (mfR (.own 7) (st.length + 3) x).cells :: .cells [.sl (W.bsv x) x.length .ro, .int .i64 (W.endF (rdP (st.length + 3) x).2).p, .int .i64 (W.endF (rdP (st.length + 3) x).2).e] :: pcObs (rdP (st.length + 3) x).1) else st
theorem numsF_le {v : SV} : ∀ (k : Nat) {s : W.RdS}, rdOk v s → ∀ x ∈ (numsF MX k s).1, 0 ≤ x ∧ x ≤ MX
  | 0, s, h, x, hx => by simp [numsF] at hx
  | k + 1, s, h, x, hx => by
    obtain ⟨n, h1, h2⟩ := numF_le (s := s) (most := MX) (by decide) h.2.2
    rw [numsF, List.mem_cons] at hx
    rcases hx with rfl | hx
    · rw [h1]; exact ⟨by omega, h2⟩
    · exact numsF_le k (rdOk_num h MX).1 x hx
theorem psF_row {v : SV} {st : List Ob} {A B C : Ob} : ∀ (k : Nat) {s : W.RdS}, rdOk v s → s.l.length ≤ 268435456 → ∀ p ∈ (psF (st.length + 3) k s).1, p.ok (st ++ (A :: B :: C :: pcObs (psF (st.length + 3) k s).1)) ∧ p.ch.length ≤ 10 ∧ p.path.length ≤ s.l.length
  | 0, s, h, hl, p, hp => by simp [psF] at hp
  | k + 1, s, h, hl, p, hp => by
    obtain ⟨h1, h2⟩ := rdOk_ps (st.length + 3) k h
    have e : st ++ (A :: B :: C :: pcObs (psF (st.length + 3) (k + 1) s).1) = (st ++ (A :: B :: C :: pcObs (psF (st.length + 3) k s).1)) ++ [.cells (pcF (st.length + 3 + (3 * k + 2)) (psF (st.length + 3) k s).2).cells, .cells (pcF (st.length + 3 + (3 * k + 2)) (psF (st.length + 3) k s).2).cells, .cells (isv (pC (psF (st.length + 3) k s).2).1)] := by
      show st ++ (A :: B :: C :: pcObs ((psF (st.length + 3) k s).1 ++ _)) = _
      rw [pcObs_snoc]; simp [pcF]
    rw [e]
    rw [psF, List.mem_append] at hp
    rcases hp with hp | hp
    · obtain ⟨g1, g2, g3⟩ := psF_row (A := A) (B := B) (C := C) k h hl p hp
      exact ⟨g1.mono _, g2, g3⟩
    · obtain rfl := List.mem_singleton.1 hp
      have hlen := psF_len (st.length + 3) k s
      obtain ⟨psk, sk, ek⟩ : ∃ a b, psF (st.length + 3) k s = (a, b) := ⟨_, _, rfl⟩
      rw [ek] at h1 h2 hlen ⊢
      simp only at h1 h2 hlen ⊢
      obtain ⟨x, p1, e1, ht, hq1, hq2⟩ := W.textF_spec sk 52 h1.2.2
      obtain ⟨a1, b1⟩ := rdOk_text h1 52
      obtain ⟨a2, b2⟩ := rdOk_num a1 1
      obtain ⟨a3, b3, _⟩ := rdOk_nums (most := MX) 4 a2
      obtain ⟨kn, hk1, hk2⟩ := numF_le (s := (pB sk).2) (most := 10) (by decide) a3.2.2
      obtain ⟨a4, b4⟩ := rdOk_num a3 10
      have hcl : (pC sk).1.length = kn := by
        obtain ⟨_, _, h9⟩ := rdOk_nums (most := MX) (pK sk).1.toNat a4
        show (numsF MX (pK sk).1.toNat (pK sk).2).1.length = kn
        have e9 : (numsF MX (pK sk).1.toNat (pK sk).2).1.length = (pK sk).1.toNat := h9
        rw [e9, show (pK sk).1 = (kn : Int) from hk1, Int.toNat_natCast]
      have hkn : kn ≤ 10 := by omega
      have hpl : (W.textF sk 52).1.length ≤ s.l.length := by rw [ht, ← h2]; exact hq2
      refine ⟨⟨⟨by rw [isv_len, Nat.mul_one], .inr (.inr ⟨_, 0, isv (pC sk).1, rfl, ?_, by simp [isv_len, pcF], ?_⟩)⟩, ?_, ?_⟩, ?_, hpl⟩
      · have e5 : st.length + 3 + (3 * k + 2) = (st ++ (A :: B :: C :: pcObs psk)).length + 2 := by
          simp only [List.length_append, List.length_cons, pcObs_len, hlen]; omega
        rw [e5, getA]; rfl
      · show ((isv (pC sk).1).drop 0).take ((pC sk).1.length * 1) = isv (pC sk).1
        rw [List.drop_zero, Nat.mul_one, List.take_of_length_le (by rw [isv_len]; exact Nat.le_refl _)]
      · show (pC sk).1.length ≤ _; omega
      · show (W.textF sk 52).1.length ≤ _; omega
      · show (pC sk).1.length ≤ _; omega
end Go.Sh.F
namespace Go.Sh.F
open Go.PathLaw Go.Proofs
theorem rdv_s (x : List UInt8) : W.rdv (.sl (W.bsv x) x.length .ro) x := .inr rfl
theorem x40r {st : List Ob} {x : List UInt8} (hx : x.length ≤ 268435456) : O212 40 [.sl (W.bsv x) x.length .ro] st (.ptr st.length 0) (st ++ [.cells [.sl (W.bsv x) x.length .ro, .int .i64 0, .int .i64 0]]) :=
  (.inl (.inl (.inl (.inl (.inl (.inl (.inl (.inl (.inl (.inl (.inl (.inl ((.inr (by repeat first | exact Or.inr ⟨rfl, .sl (W.bsv x) x.length .ro, x, .inr ⟨.ro, .inl rfl, rfl⟩, by omega, rfl, rfl, rfl⟩ | refine Or.inl ?_)))))))))))))))
theorem x42r {st : List Ob} {rid : Nat} {v : SV} {s : W.RdS} (h : rdOk v s) (hg : st[rid]? = some (.cells [v, .int .i64 s.p, .int .i64 s.e])) (most : Int) :
    O212 42 [.ptr rid 0, .int .i64 most] st (.int .i64 (W.numF s most).1) (setOb st rid [v, .int .i64 (W.numF s most).2.p, .int .i64 (W.numF s most).2.e]) :=
  (.inl (.inl (.inl (.inl (.inl (.inl (.inl (.inl (.inl (.inl (.inl (.inl ((.inr (by repeat first | exact Or.inr ⟨rfl, s, v, rid, most, h.1, h.2.1, h.2.2, hg, rfl, rfl, rfl⟩ | refine Or.inl ?_)))))))))))))))
theorem x44r {st : List Ob} {rid : Nat} {v : SV} {p e : Int} (hg : st[rid]? = some (.cells [v, .int .i64 p, .int .i64 e])) :
    O212 44 [.ptr rid 0] st (.int .i64 e) st :=
  (.inl (.inl (.inl (.inl (.inl (.inl (.inl (.inl (.inl (.inl (.inl (.inl ((.inr (by repeat first | exact Or.inr ⟨rfl, v, rid, p, e, hg, rfl, rfl, rfl⟩ | refine Or.inl ?_)))))))))))))))
theorem x45r {st : List Ob} {rid : Nat} {v : SV} {s : W.RdS} (h : rdOk v s) (hg : st[rid]? = some (.cells [v, .int .i64 s.p, .int .i64 s.e])) :
    O212 45 [.ptr rid 0] st (.int .i64 (W.endF s).e) (setOb st rid [v, .int .i64 (W.endF s).p, .int .i64 (W.endF s).e]) :=
  (.inl (.inl (.inl (.inl (.inl (.inl (.inl (.inl (.inl (.inl (.inl (.inl ((.inr (by repeat first | exact Or.inr ⟨rfl, s, v, rid, h.1, hg, rfl, rfl, rfl⟩ | refine Or.inl ?_)))))))))))))))
theorem x41r {F : W.RdS → List SV → List Ob} {rid tid : Nat} {v : SV} (hF : TwoOb F rid tid v) (s : W.RdS) (c : List SV) (os : List Nat) (hs : rdOk v s) (ho : ∀ o ∈ os, o < c.length) (hn : os.length ≤ 16777216) :
    O212 41 [.ptr rid 0, .sl (ptrs tid os) os.length .ro] (F s c) (.tup []) (F (numsF MX os.length s).2 (setL c os (numsF MX os.length s).1)) :=
  .inl (.inr ⟨rfl, by simp [sf41], g41 hF s c os _ hs ho hn (.inl rfl)⟩)
theorem x18r {m : Mf} {st : List Ob} (h : m.ok st) (hf : m.fit) (ho : okSt st) : O212 18 [.agg m.cells] st (.bool (rightM m)) st :=
  (by repeat first | exact Or.inr ⟨rfl, rfl, m, h, hf, ho, rfl, rfl⟩ | refine Or.inl ?_)
def two3 (st : List Ob) (A : Ob) (v : SV) : W.RdS → List SV → List Ob := fun s c => st ++ (A :: .cells c :: [.cells [v, .int .i64 s.p, .int .i64 s.e]])
theorem two3_ok (st : List Ob) (A : Ob) (v : SV) : TwoOb (two3 st A v) (st.length + 2) (st.length + 1) v where
  g1 s c := by unfold two3; rw [getA]; rfl
  g2 s c := by unfold two3; rw [getA]; rfl
  s1 s c s' := by unfold two3; rw [setA]; rfl
  s2 s c c' := by unfold two3; rw [setA]; rfl
theorem ev_s2bW {st : List Ob} {x : List UInt8} (h : x.length ≤ 1073741824) : ev st .s2b [.str x] = some (.sl (W.bsv x) x.length (.excl 1), [], st) := by
  show (if x.length ≤ 1073741824 then some (SV.sl (x.map fun b => .int .u8 b.toNat) x.length (.excl 1), [], st) else none) = _
  rw [if_pos h]; rfl
theorem st_ownW {st : List Ob} {id o n es : Nat} {xs : List SV} : ev st (.store 1 true) [.ptr id o, .sl xs n (.own es)] = apO (st[id]?) fun l => if o < l.length then some (.undef, [(1, .sl xs n .ro)], setOb st id (l.set o (.sl xs n (.own es)))) else none := by
  show (match st[id]? with | some (.cells l) => (if flg (.sl xs n (.own es)) then (if 1 = 1 ∧ o < l.length then some (SV.undef, [(1, ro (pub (.sl xs n (.own es))))], setOb st id (l.set o (pub (.sl xs n (.own es))))) else none) else _) | _ => none) = _
  unfold apO
  cases st[id]? with
  | none => rfl
  | some ob =>
    cases ob with
    | map => rfl
    | cells l =>
      show (if 1 = 1 ∧ o < l.length then _ else none) = _
      simp only [true_and]; rfl
theorem st_exclW {st : List Ob} {id o n es : Nat} {xs : List SV} : ev st (.store 1 true) [.ptr id o, .sl xs n (.excl es)] = apO (st[id]?) fun l => if o < l.length then some (.undef, [(1, .sl xs n .ro)], setOb st id (l.set o (.sl xs n (.own es)))) else none := by
  show (match st[id]? with | some (.cells l) => (if flg (.sl xs n (.excl es)) then (if 1 = 1 ∧ o < l.length then some (SV.undef, [(1, ro (pub (.sl xs n (.excl es))))], setOb st id (l.set o (pub (.sl xs n (.excl es))))) else none) else _) | _ => none) = _
  unfold apO
  cases st[id]? with
  | none => rfl
  | some ob =>
    cases ob with
    | map => rfl
    | cells l =>
      show (if 1 = 1 ∧ o < l.length then _ else none) = _
      simp only [true_and]; rfl
theorem retOf_c2 {p n id t : Nat} {s : S} {l : List SV} {r : SV} (h : s.get p = .ptr id 0) (h1 : s.st[id]? = some (.cells l)) (hn : n = l.length) (hr : ro (.agg l) = r) : retOf [.cell p n true, .tmp t] s = some (.tup [r, s.get t]) := by
  have := retOf_cell h h1 hn hr
  show (List.mapM (retV s) [.cell p n true, .tmp t]).map SV.tup = _
  have e : retV s (.cell p n true) = some r := this
  rw [List.mapM_cons, List.mapM_cons, e]; rfl
theorem idOks_bsvW {k : Nat} : ∀ x : List UInt8, idOks k (W.bsv x) = true
  | [] => rfl
  | _ :: x => idOks_bsvW x
theorem ro1_pvS (f : Nat) (L : List Pc) : ro1 (pvS (.own f) L) = pvS .ro L := by cases L <;> rfl
theorem ro1_pvR (L : List Pc) : ro1 (pvS .ro L) = pvS .ro L := by cases L <;> rfl
theorem cell_pvS (f : Fl) (L : List Pc) : isCell (pvS f L) = true := by cases L <;> rfl
theorem row_pvS (st : List Ob) (L : List Pc) : RowAt st (pvS .ro L) 7 L.length (L.flatMap Pc.cells) := by
  cases L with
  | nil => exact RowAt.nil
  | cons p l => exact ⟨flat_len (pc_len _), .inr (.inl ⟨.ro, .inl rfl, rfl⟩)⟩
theorem idOks_pcs {k : Nat} : ∀ {L : List Pc}, (∀ p ∈ L, idOk k p.cv = true) → idOks k (L.flatMap Pc.cells) = true
  | [], _ => rfl
  | p :: L, h => by
    rw [List.flatMap_cons, idOks_app, idOks_pcs (fun q hq => h q (List.mem_cons_of_mem _ hq)), Bool.and_true]
    simp [Pc.cells, idOks, idOk, h p List.mem_cons_self]
theorem idOk_pvS {k : Nat} {f : Fl} {L : List Pc} (h : ∀ p ∈ L, idOk k p.cv = true) : idOk k (pvS f L) = true := by
  cases L with
  | nil => rfl
  | cons p l => exact idOks_pcs h
theorem okSt_ps {st : List Ob} {A B C : Ob} {L : List Pc} (ho : okSt st) (h : ∀ p ∈ L, p.ok (st ++ (A :: B :: C :: pcObs L)))
    (hA : obOk (st ++ (A :: B :: C :: pcObs L)).length A = true) (hB : obOk (st ++ (A :: B :: C :: pcObs L)).length B = true) (hC : obOk (st ++ (A :: B :: C :: pcObs L)).length C = true) : okSt (st ++ (A :: B :: C :: pcObs L)) := by
  refine okSt_appL ho ?_
  rw [← List.length_append, List.all_cons, List.all_cons, List.all_cons, hA, hB, hC]
  simp only [Bool.true_and]
  rw [List.all_eq_true]
  intro o hoo
  obtain ⟨p, hp, ho2⟩ := List.mem_flatMap.1 hoo
  have hi : idOks (st ++ (A :: B :: C :: pcObs L)).length p.cells = true := by
    have := RowI.idOk (h p hp).1
    simp only [Pc.cells, idOks, idOk, this, Bool.and_self]
  simp only [List.mem_cons, List.not_mem_nil, or_false] at ho2
  rcases ho2 with rfl | rfl | rfl
  · exact hi
  · exact hi
  · exact idOks_isv _ _
set_option maxHeartbeats 32000000 in
set_option maxRecDepth 20000 in
theorem g22r (x : List UInt8) (st : List Ob) (hx : x.length ≤ 268435456) (ho : okSt st) : swpF O212 sf22 [.str x] st (fun r st' => r = .tup [.agg (rdM st x).cells, .int .i64 (rdC st x)] ∧ st' = rdT st x) := by
  obtain ⟨v, hve⟩ : ∃ v, SV.sl (W.bsv x) x.length .ro = v := ⟨_, rfl⟩
  have hv : W.rdv v x := hve ▸ rdv_s x
  have k40 := fun st => x40r (st := st) hx
  rw [hve] at k40
  have hs0 : rdOk v ⟨x, 0, 0⟩ := ⟨hv, by show x.length ≤ _; omega, Nat.zero_le _⟩
  have k41 := x41r (two3_ok st (.cells [.int .i64 0, .int .i64 0, .int .i64 0, .int .i64 0, .int .i64 0, .int .i64 0, .int .i64 0, .nilS]) v) ⟨x, 0, 0⟩ [.int .i64 0, .int .i64 0, .int .i64 0, .int .i64 0, .int .i64 0, .int .i64 0, .int .i64 0, .nilS] [0, 1, 2, 3, 4, 5, 6] hs0 (by simp) (by simp)
  obtain ⟨hs1, hl1, _⟩ := rdOk_nums (most := MX) 7 hs0
  obtain ⟨h0, h1, h2, h3, h4, h5, h6, s1, eH⟩ : ∃ h0 h1 h2 h3 h4 h5 h6 s1, numsF MX 7 ⟨x, 0, 0⟩ = ([h0, h1, h2, h3, h4, h5, h6], s1) := ⟨_, _, _, _, _, _, _, _, rfl⟩
  rw [show ([0, 1, 2, 3, 4, 5, 6] : List Nat).length = 7 from rfl, eH] at k41
  rw [eH] at hs1 hl1
  simp only [two3, setL, List.set_cons_succ, List.set_cons_zero, ptrs, List.map_cons, List.map_nil] at k41
  simp only at hs1 hl1
  obtain ⟨nn, hn1, hn2⟩ := numF_le (s := s1) (most := 32) (by decide) hs1.2.2
  obtain ⟨hs2, hl2⟩ := rdOk_num hs1 32
  obtain ⟨nz, s2, eN⟩ : ∃ nz s2, W.numF s1 32 = (nz, s2) := ⟨_, _, rfl⟩
  have k42 := fun st rid hg => x42r (st := st) (rid := rid) hs1 hg 32
  rw [eN] at hs2 hl2 hn1 k42
  simp only at hs2 hl2 hn1 k42
  subst hn1
  have hrH : hdS x = ([h0, h1, h2, h3, h4, h5, h6], s1) := eH
  have hrN : rdN x = ((nn : Int), s2) := by unfold rdN; rw [hrH]; exact eN
  have hs2b := fun s => ev_s2bW (st := s) (x := x) (by omega)
  have hcl : ∀ a b c : Nat, SV.sl (W.bsv x) x.length .ro = v := fun _ _ _ => hve
  have sZ : ∀ Y : List Ob, ev (st ++ (.cells [.int .i64 0, .int .i64 0, .int .i64 0, .int .i64 0, .int .i64 0, .int .i64 0, .int .i64 0, .nilS] :: Y)) (.store 8 true) [.ptr st.length 0, .agg [.int .i64 0, .int .i64 0, .int .i64 0, .int .i64 0, .int .i64 0, .int .i64 0, .int .i64 0, .nilS]] = some (.undef, [], st ++ (.cells [.int .i64 0, .int .i64 0, .int .i64 0, .int .i64 0, .int .i64 0, .int .i64 0, .int .i64 0, .nilS] :: Y)) := by
    intro Y
    have := st_aggA (st := st) (l := .cells [.int .i64 0, .int .i64 0, .int .i64 0, .int .i64 0, .int .i64 0, .int .i64 0, .int .i64 0, .nilS] :: Y) (i := 0) (n := 8) (b := true) (xs := [.int .i64 0, .int .i64 0, .int .i64 0, .int .i64 0, .int .i64 0, .int .i64 0, .int .i64 0, .nilS]) rfl rfl rfl rfl rfl
    rwa [Nat.add_zero] at this
  simp (maxSteps := 2000000) (disch := first | omega | simp only [List.length_append, List.length_cons, List.length_nil, List.length_map] <;> omega) only [sf22, hs2b, List.append_assoc, List.set_cons_zero, List.set_cons_succ, pub_excl2, flg_int, exc_int, exc_excl, swp_seq, swp_reg, swp_scope, seqK_n, evK_some, appK_eq, srun_nil, srun_cons, stepK_call, swpF_eq, sk_mv, sk_take, sk_give, sk_s2b, sk_alloc, get_mk, raw_slot, raw_lit, put_some, wb_nil, ev_mv, ev_take, ev_give, ev_alloc, ro_int, ro_str, got_excl, got_int, pubs, pubsFrom, List.map_cons, List.map_nil, List.getD_cons_zero, List.getD_cons_succ, List.length_cons, List.length_nil, List.replicate_succ, List.replicate_zero, List.cons_append, List.nil_append, Nat.reduceSub, Bool.false_eq_true, ↓reduceIte, Nat.zero_add, List.length_append]
  rw [hve]
  refine callK_intro (k40 _) ?_
  simp (maxSteps := 2000000) (disch := first | omega | simp only [List.length_append, List.length_cons, List.length_nil, List.length_map] <;> omega) only [cell_p, cv_ptr, List.append_assoc, Nat.add_zero, List.set_cons_zero, List.set_cons_succ, pub_excl2, flg_ptr, exc_ptr, exc_excl, swp_seq, swp_reg, seqK_n, evK_some, appK_eq, appC_eq, srun_nil, srun_cons, stepK_call, sk_mv, sk_give, sk_fld, sk_bsl, get_mk, raw_slot, put_some, wb_nil, wb_cons, ev_mv, ev_give, ev_fld, ev_bsl, ro_ptr, got_excl, got_ptr, pubs, pubsFrom, List.map_cons, List.map_nil, List.getD_cons_zero, List.getD_cons_succ, List.getElem?_cons_zero, List.length_cons, List.length_nil, List.replicate_succ, List.replicate_zero, List.cons_append, List.nil_append, Nat.reduceAdd, Nat.reduceLeDiff, Nat.reduceLT, and_true, Bool.false_eq_true, Option.map_some, ↓reduceIte, List.all_cons, List.all_nil, Bool.and_self, List.zip_cons_cons, List.zip_nil_right, rep, fillV, wrCells, List.flatten_cons, List.flatten_nil, List.append_nil, decide_true, Nat.mul_one, Nat.zero_add, List.length_append, Nat.le_refl]
  refine callK_intro k41 ?_
  simp (maxSteps := 2000000) (disch := first | omega | simp only [List.length_append, List.length_cons, List.length_nil, List.length_map] <;> omega) only [List.set_cons_zero, List.set_cons_succ, exc_int, exc_ptr, swp_seq, swp_reg, seqK_n, evK_some, appK_eq, appC_eq, srun_nil, srun_cons, stepK_call, sk_mv, get_mk, raw_slot, raw_lit, put_some, wb_nil, wb_cons, ev_mv, ro_ptr, got_int, got_ptr, pubs, pubsFrom, List.map_cons, List.map_nil, List.getD_cons_zero, List.getD_cons_succ, List.getElem?_cons_zero, List.getElem?_cons_succ, Bool.false_eq_true, ↓reduceIte]
  refine callK_intro (k42 _ _ (by rw [getA]; rfl)) ?_
  simp (maxSteps := 2000000) (disch := first | omega | simp only [List.length_append, List.length_cons, List.length_nil, List.length_map] <;> omega) only [setA, List.set_cons_zero, List.set_cons_succ, flg_int, swp_seq, swp_reg, swp_block, seqK_n, evK_some, appK_eq, appC_eq, srun_nil, srun_cons, sk_mv, sk_give, get_mk, raw_slot, raw_lit, put_some, wb_nil, ev_mv, ev_give, ro_int, List.map_cons, List.map_nil, List.getD_cons_zero, List.getD_cons_succ, Bool.false_eq_true, ↓reduceIte]
  refine swp_lp (fun S => ∃ (i : Nat), i ≤ nn ∧ S = ⟨[.undef, .undef, .ptr st.length 0, .int .i64 0, .ptr (st.length + 1) 0, .undef, .ptr (st.length + 2) 0] ++ List.replicate 15 .undef ++ [.int .i64 nn, .int .i64 i] ++ List.replicate 22 .undef, st ++ (.cells [.int .i64 0, .int .i64 0, .int .i64 0, .int .i64 0, .int .i64 0, .int .i64 0, .int .i64 0, .nilS] :: .cells [.int .i64 h0, .int .i64 h1, .int .i64 h2, .int .i64 h3, .int .i64 h4, .int .i64 h5, .int .i64 h6, pvS (.own 7) (psF (st.length + 3) i s2).1] :: .cells [v, .int .i64 (psF (st.length + 3) i s2).2.p, .int .i64 (psF (st.length + 3) i s2).2.e] :: pcObs (psF (st.length + 3) i s2).1)⟩)
      (fun S => match S.get 23 with | .int _ k => ((nn : Int) - k).toNat | _ => 0)
      ⟨[.undef, .undef, .ptr st.length 0, .int .i64 0, .ptr (st.length + 1) 0, .undef, .ptr (st.length + 2) 0] ++ List.replicate 15 .undef ++ [.int .i64 nn, .int .i64 (0 : Nat)] ++ List.replicate 22 .undef, st ++ (.cells [.int .i64 0, .int .i64 0, .int .i64 0, .int .i64 0, .int .i64 0, .int .i64 0, .int .i64 0, .nilS] :: .cells [.int .i64 h0, .int .i64 h1, .int .i64 h2, .int .i64 h3, .int .i64 h4, .int .i64 h5, .int .i64 h6, pvS (.own 7) (psF (st.length + 3) 0 s2).1] :: .cells [v, .int .i64 (psF (st.length + 3) 0 s2).2.p, .int .i64 (psF (st.length + 3) 0 s2).2.e] :: pcObs (psF (st.length + 3) 0 s2).1)⟩ ?_ ⟨0, Nat.zero_le _, rfl⟩ ?_
  · refine Forget.of ?_
    repeat first | exact fg_e | refine fg_d ?_ | refine fg_k rfl ?_
  rintro S ⟨i, hi, rfl⟩
  obtain ⟨hsi, hli⟩ := rdOk_ps (st.length + 3) i hs2
  have hLl := psF_len (st.length + 3) i s2
  have hnext : psF (st.length + 3) (i + 1) s2 = ((psF (st.length + 3) i s2).1 ++ [pcF (st.length + 3 + (3 * i + 2)) (psF (st.length + 3) i s2).2], (pC (psF (st.length + 3) i s2).2).2) := rfl
  obtain ⟨L, si, eL⟩ : ∃ L si, psF (st.length + 3) i s2 = (L, si) := ⟨_, _, rfl⟩
  rw [eL] at hsi hli hLl hnext ⊢
  simp only at hsi hli hLl hnext ⊢
  by_cases him : i = nn
  · have hd : decide ((i : Int) < (nn : Int)) = false := by rw [decide_eq_false_iff_not]; omega
    subst him
    have hrP : rdP (st.length + 3) x = (L, si) := by unfold rdP; rw [hrN]; exact eL
    have hmf : ∀ f, mfR f (st.length + 3) x = ⟨h0, h1, h2, h3, h4, h5, h6, pvS f L, L⟩ := by intro f; unfold mfR; rw [hrH, hrP]; rfl
    have hrow := psF_row (st := st) (A := .cells [.int .i64 0, .int .i64 0, .int .i64 0, .int .i64 0, .int .i64 0, .int .i64 0, .int .i64 0, .nilS]) (B := .cells [.int .i64 h0, .int .i64 h1, .int .i64 h2, .int .i64 h3, .int .i64 h4, .int .i64 h5, .int .i64 h6, pvS (.own 7) L]) (C := .cells [v, .int .i64 (W.endF si).p, .int .i64 (W.endF si).e]) i hs2 (by rw [hl2, hl1]; omega)
    rw [eL] at hrow
    simp only at hrow
    simp (maxSteps := 2000000) (disch := first | omega | simp only [List.length_append, List.length_cons, List.length_nil, List.length_map] <;> omega) only [hd, List.set_cons_zero, List.set_cons_succ, lpK_e, exc_ptr, swp_seq, swp_reg, swp_exit, swp_cond, seqK_n, seqK_e, blkK_e, condK_f, evK_some, appK_eq, srun_nil, srun_cons, stepK_call, sk_mv, sk_bin, get_mk, raw_slot, put_some, wb_nil, ev_mv, bin_lss, ro_ptr, got_ptr, pubs, pubsFrom, List.map_cons, List.map_nil, List.getD_cons_zero, List.getD_cons_succ, List.length_cons, List.length_nil, List.replicate_succ, List.replicate_zero, List.cons_append, List.nil_append, Nat.reduceAdd, Bool.false_eq_true, ↓reduceIte, Nat.zero_add, List.length_append]
    refine callK_intro (x45r hsi (by rw [getA]; rfl)) ?_
    by_cases hE : (W.endF si).e = 0
    · have hne : ((W.endF si).e != 0) = false := by rw [hE]; rfl
      have hids : ∀ p ∈ L, idOk (st ++ (.cells [.int .i64 0, .int .i64 0, .int .i64 0, .int .i64 0, .int .i64 0, .int .i64 0, .int .i64 0, .nilS] :: .cells [.int .i64 h0, .int .i64 h1, .int .i64 h2, .int .i64 h3, .int .i64 h4, .int .i64 h5, .int .i64 h6, pvS (.own 7) L] :: .cells [v, .int .i64 (W.endF si).p, .int .i64 (W.endF si).e] :: pcObs L)).length p.cv = true := fun p hp => RowI.idOk (hrow p hp).1.1
      have hso : okSt (st ++ (.cells [.int .i64 0, .int .i64 0, .int .i64 0, .int .i64 0, .int .i64 0, .int .i64 0, .int .i64 0, .nilS] :: .cells [.int .i64 h0, .int .i64 h1, .int .i64 h2, .int .i64 h3, .int .i64 h4, .int .i64 h5, .int .i64 h6, pvS (.own 7) L] :: .cells [v, .int .i64 (W.endF si).p, .int .i64 (W.endF si).e] :: pcObs L)) := okSt_ps ho (fun p hp => (hrow p hp).1) (by rfl) (by
        show idOks _ _ = true
        simp only [idOks, idOk, Bool.true_and, Bool.and_true]
        exact idOk_pvS hids) (by
        show idOks _ _ = true
        rw [← hve]
        simp only [idOks, idOk, Bool.and_true]
        exact idOks_bsvW x)
      have hmo : (⟨h0, h1, h2, h3, h4, h5, h6, pvS .ro L, L⟩ : Mf).ok (st ++ (.cells [.int .i64 0, .int .i64 0, .int .i64 0, .int .i64 0, .int .i64 0, .int .i64 0, .int .i64 0, .nilS] :: .cells [.int .i64 h0, .int .i64 h1, .int .i64 h2, .int .i64 h3, .int .i64 h4, .int .i64 h5, .int .i64 h6, pvS (.own 7) L] :: .cells [v, .int .i64 (W.endF si).p, .int .i64 (W.endF si).e] :: pcObs L)) := ⟨row_pvS _ L, by show L.length ≤ _; omega, fun p hp => (hrow p hp).1⟩
      have hmfit : (⟨h0, h1, h2, h3, h4, h5, h6, pvS .ro L, L⟩ : Mf).fit := by
        have := numsF_le 7 hs0 h1 (by rw [eH]; simp)
        unfold Mf.fit; exact ⟨by show _ ≤ h1; omega, by show h1 ≤ _; have := this.2; simp only [MX] at this; omega⟩
      have k18 := x18r hmo hmfit hso
      simp only [Mf.cells] at k18
      have qP := ro1_pvS 7 L
      have qR := ro1_pvR L
      have qC := cell_pvS .ro L
      simp (maxSteps := 2000000) (disch := first | omega | simp only [List.length_append, List.length_cons, List.length_nil, List.length_map] <;> omega) only [hne, qP, qR, getA, setA, ev_ldA, List.drop_zero, List.take_succ_cons, List.take_zero, List.set_cons_zero, List.set_cons_succ, apO_some, exc_agg, evK_some, appK_eq, appC_eq, grd_t, srun_cons, stepK_call, stepK_grd, sk_mv, sk_bin, sk_load, get_mk, raw_slot, raw_lit, put_some, wb_nil, ev_mv, bin_neq, ro_bool, ro_agg, ro1_int, got_agg, pubs, pubsFrom, List.map_cons, List.map_nil, List.getD_cons_zero, List.getD_cons_succ, List.getElem?_cons_zero, List.getElem?_cons_succ, List.length_cons, List.length_nil, Nat.reduceAdd, Bool.false_eq_true, ↓reduceIte, Nat.zero_add, Nat.le_refl]
      refine callK_intro k18 ?_
      cases hR : rightM ⟨h0, h1, h2, h3, h4, h5, h6, pvS .ro L, L⟩ with
      | true =>
        have hb : okR (st.length + 3) x = true := by unfold okR; rw [hmf, hrP, hR]; simp [hE]
        have e1 : rdM st x = ⟨h0, h1, h2, h3, h4, h5, h6, pvS .ro L, L⟩ := by unfold rdM; rw [hb, hmf]; rfl
        have e2 : rdC st x = 0 := by unfold rdC; rw [hb]; rfl
        have e3 : rdT st x = st ++ (.cells [.int .i64 h0, .int .i64 h1, .int .i64 h2, .int .i64 h3, .int .i64 h4, .int .i64 h5, .int .i64 h6, pvS .ro L] :: .cells [.int .i64 h0, .int .i64 h1, .int .i64 h2, .int .i64 h3, .int .i64 h4, .int .i64 h5, .int .i64 h6, pvS (.own 7) L] :: .cells [v, .int .i64 (W.endF si).p, .int .i64 (W.endF si).e] :: pcObs L) := by
          unfold rdT; rw [hb, hmf, hmf, hrP, hve]; rfl
        have sM : ∀ Y : List Ob, ev (st ++ (.cells [.int .i64 0, .int .i64 0, .int .i64 0, .int .i64 0, .int .i64 0, .int .i64 0, .int .i64 0, .nilS] :: Y)) (.store 8 true) [.ptr st.length 0, .agg [.int .i64 h0, .int .i64 h1, .int .i64 h2, .int .i64 h3, .int .i64 h4, .int .i64 h5, .int .i64 h6, pvS .ro L]] = some (.undef, [], st ++ (.cells [.int .i64 h0, .int .i64 h1, .int .i64 h2, .int .i64 h3, .int .i64 h4, .int .i64 h5, .int .i64 h6, pvS .ro L] :: Y)) := by
          intro Y
          have := st_aggA (st := st) (l := .cells [.int .i64 0, .int .i64 0, .int .i64 0, .int .i64 0, .int .i64 0, .int .i64 0, .int .i64 0, .nilS] :: Y) (i := 0) (n := 8) (b := true) (xs := [.int .i64 h0, .int .i64 h1, .int .i64 h2, .int .i64 h3, .int .i64 h4, .int .i64 h5, .int .i64 h6, pvS .ro L]) rfl (by simp only [List.map_cons, List.map_nil, qR]; rfl) (by simp only [List.all_cons, List.all_nil, qC]; rfl) rfl rfl
          rwa [Nat.add_zero] at this
        simp only [e1, e2, e3, Mf.cells]
        simp (maxSteps := 2000000) (disch := first | omega | simp only [List.length_append, List.length_cons, List.length_nil, List.length_map] <;> omega) only [qP, sM, getA, ev_ldA, List.drop_zero, List.take_succ_cons, List.take_zero, List.set_cons_zero, List.set_cons_succ, apO_some, flg_int, swp_seq, swp_reg, swp_skip, swp_ret, swp_cond, seqK_n, seqK_r, scpK_r, condK_f, evK_some, appK_eq, appC_eq, grd_t, srun_nil, srun_cons, stepK_grd, sk_give, sk_pick, sk_un, sk_load, sk_store, get_mk, raw_slot, raw_lit, put_some, put_none, wb_nil, ev_give, ev_pick, ev_not, ro_int, ro_bool, ro_agg, ro1_int, List.map_cons, List.map_nil, List.getD_cons_zero, List.getD_cons_succ, List.getElem?_cons_zero, List.getElem?_cons_succ, List.length_cons, List.length_nil, Nat.reduceAdd, Bool.false_eq_true, ↓reduceIte, Nat.zero_add, Bool.not_true, Nat.le_refl]
        exact ⟨_, _, retOf_c2 (n := 8) (id := st.length) (t := 3) (l := [.int .i64 h0, .int .i64 h1, .int .i64 h2, .int .i64 h3, .int .i64 h4, .int .i64 h5, .int .i64 h6, pvS .ro L]) (r := .agg [.int .i64 h0, .int .i64 h1, .int .i64 h2, .int .i64 h3, .int .i64 h4, .int .i64 h5, .int .i64 h6, pvS .ro L]) rfl (by rw [getA0]; rfl) rfl (by show SV.agg (List.map ro1 _) = _; simp only [List.map_cons, List.map_nil, qR]; rfl), .same, rfl, rfl⟩
      | false =>
        have hb : okR (st.length + 3) x = false := by unfold okR; rw [hmf, hrP, hR, Bool.and_false]
        have e1 : rdM st x = Mf.none := by unfold rdM; rw [hb]; rfl
        have e2 : rdC st x = 4 := by unfold rdC; rw [hb]; rfl
        have e3 : rdT st x = st := by unfold rdT; rw [hb]; rfl
        simp only [e1, e2, e3]
        simp (maxSteps := 2000000) (disch := first | omega | simp only [List.length_append, List.length_cons, List.length_nil, List.length_map] <;> omega) only [sZ, List.set_cons_zero, List.set_cons_succ, flg_int, swp_seq, swp_reg, swp_skip, swp_ret, swp_goto, swp_cond, seqK_n, seqK_g, noG_r, scpK_g, condK_t, evK_some, appK_eq, appC_eq, grd_t, srun_nil, srun_cons, stepK_grd, sk_give, sk_pick, sk_un, sk_store, sk_bld, get_mk, raw_slot, raw_lit, put_some, put_none, wb_nil, ev_give, ev_pick, ev_not, ev_bld, ro_int, ro_bool, pubs, pubsFrom, List.map_cons, List.map_nil, List.getD_cons_zero, List.getD_cons_succ, List.length_nil, Bool.false_eq_true, Option.map_some, ↓reduceIte, List.zip_nil_right, fillV, Bool.not_false]
        exact ⟨_, _, retOf_c2 (n := 8) (id := st.length) (t := 3) (l := [.int .i64 0, .int .i64 0, .int .i64 0, .int .i64 0, .int .i64 0, .int .i64 0, .int .i64 0, .nilS]) (r := .agg [.int .i64 0, .int .i64 0, .int .i64 0, .int .i64 0, .int .i64 0, .int .i64 0, .int .i64 0, .nilS]) rfl (by rw [getA0]; rfl) rfl rfl, trim1 ho rfl, rfl, rfl⟩
    · have hne : ((W.endF si).e != 0) = true := by rw [bne_iff_ne]; exact hE
      have hb : okR (st.length + 3) x = false := by
        unfold okR; rw [hrP, Bool.and_eq_false_iff]
        exact .inl (by rw [beq_eq_false_iff_ne]; exact hE)
      have e1 : rdM st x = Mf.none := by unfold rdM; rw [hb]; rfl
      have e2 : rdC st x = 4 := by unfold rdC; rw [hb]; rfl
      have e3 : rdT st x = st := by unfold rdT; rw [hb]; rfl
      simp only [e1, e2, e3]
      simp (maxSteps := 2000000) (disch := first | omega | simp only [List.length_append, List.length_cons, List.length_nil, List.length_map] <;> omega) only [hne, sZ, setA, List.set_cons_zero, List.set_cons_succ, flg_int, swp_seq, swp_reg, swp_skip, swp_ret, swp_goto, swp_cond, seqK_n, seqK_g, noG_r, scpK_g, condK_t, evK_some, appK_eq, appC_eq, grd_t, srun_nil, srun_cons, stepK_grd, sk_mv, sk_give, sk_pick, sk_bin, sk_store, sk_bld, get_mk, raw_slot, raw_lit, put_some, put_none, wb_nil, ev_mv, ev_give, ev_pick, bin_neq, ev_bld, ro_int, ro_bool, pubs, pubsFrom, List.map_cons, List.map_nil, List.getD_cons_zero, List.getD_cons_succ, List.length_nil, Bool.false_eq_true, Option.map_some, ↓reduceIte, List.zip_nil_right, fillV, reduceCtorEq]
      exact ⟨_, _, retOf_c2 (n := 8) (id := st.length) (t := 3) (l := [.int .i64 0, .int .i64 0, .int .i64 0, .int .i64 0, .int .i64 0, .int .i64 0, .int .i64 0, .nilS]) (r := .agg [.int .i64 0, .int .i64 0, .int .i64 0, .int .i64 0, .int .i64 0, .int .i64 0, .int .i64 0, .nilS]) rfl (by rw [getA0]; rfl) rfl rfl, trim1 ho rfl, rfl, rfl⟩
  have hd : decide ((i : Int) < (nn : Int)) = true := by rw [decide_eq_true_eq]; omega
  have fin : ((nn : Int) - ((i + 1 : Nat) : Int)).toNat < ((nn : Int) - (i : Int)).toNat := by omega
  have hid : st.length + 3 + ((pcObs L).length + 2) = st.length + 3 + (3 * i + 2) := by rw [pcObs_len, hLl]
  have kP := fun A B => xPc (st := st) hsi A B (pcObs L)
  rw [hid] at kP
  have mP : (pcF (st.length + 3 + (3 * i + 2)) si).cells.map ro1 = (pcF (st.length + 3 + (3 * i + 2)) si).cells := rfl
  have cP : (pcF (st.length + 3 + (3 * i + 2)) si).cells.all isCell = true := rfl
  have lP : (pcF (st.length + 3 + (3 * i + 2)) si).cells.length = 7 := rfl
  have wP : wrCells [.str [], .bool false, .int .i64 0, .nilS, .int .i64 0, .int .i64 0, .int .i64 0] 0 (pcF (st.length + 3 + (3 * i + 2)) si).cells = (pcF (st.length + 3 + (3 * i + 2)) si).cells := rfl
  have hP : (pcF (st.length + 3 + (3 * i + 2)) si).ch = (pC si).1 := rfl
  obtain ⟨P, eP⟩ : ∃ P, pcF (st.length + 3 + (3 * i + 2)) si = P := ⟨_, rfl⟩
  rw [eP] at kP hnext mP cP lP wP hP
  simp (maxSteps := 2000000) (disch := first | omega | simp only [List.length_append, List.length_cons, List.length_nil, List.length_map] <;> omega) only [hd, List.set_cons_zero, List.set_cons_succ, swp_seq, swp_reg, swp_skip, swp_block, swp_cond, seqK_n, condK_t, evK_some, appK_eq, srun_nil, srun_cons, sk_mv, sk_bin, sk_fld, get_mk, raw_slot, put_some, wb_nil, ev_mv, ev_fld, bin_lss, ro_ptr, List.map_cons, List.map_nil, List.getD_cons_zero, List.getD_cons_succ, List.length_cons, List.length_nil, List.replicate_succ, List.replicate_zero, List.cons_append, List.nil_append, Nat.reduceAdd, Nat.zero_add, List.length_append]
  have hbad : (pC si).2.e ≠ 0 → okR (st.length + 3) x = false := by
    intro hne
    have e1 : (psF (st.length + 3) (i + 1) s2).2.e ≠ 0 := by rw [hnext]; exact hne
    have e2 := psF_err (st.length + 3) s2 e1 (nn - (i + 1))
    rw [show i + 1 + (nn - (i + 1)) = nn by omega] at e2
    unfold okR
    rw [show (rdP (st.length + 3) x).2 = (psF (st.length + 3) nn s2).2 by unfold rdP; rw [hrN]; rfl, e2, W.endF_err e1, Bool.and_eq_false_iff]
    exact .inl (by rw [beq_eq_false_iff_ne]; exact e1)
  rcases List.eq_nil_or_concat L with hL | hL
  · subst hL
    have hi0 : i = 0 := by rw [← hLl]; rfl
    subst hi0
    rw [show pvS (.own 7) [] = .nilS from rfl, show pcObs [] = [] from rfl]
    rw [show pcObs [] = [] from rfl] at kP
    apply swp_to
    · repeat' first
        | exact swp_ttI
        | refine swp_bothI ?_ ?_
        | refine callK_intro (kP _ _) ?_
        | exact ⟨rfl, rfl⟩
        | exact rfl
        | simp (maxSteps := 2000000) (disch := first | omega | simp only [List.length_append, List.length_cons, List.length_nil, List.length_map] <;> omega) only [mP, cP, lP, wP, st_exclW, cv_agg, getA, setA, List.set_cons_zero, List.set_cons_succ, sk_loadG, ev_loadG, apO_some, flg_nilS, exc_ptr, exc_agg, swp_reg, evK_some, appK_eq, appC_eq, srun_nil, srun_cons, stepK_call, sk_fld, sk_store, sk_bsl, sk_app, get_mk, raw_slot, put_some, put_none, wb_nil, wb_cons, ev_fld, ev_bsl, ro_nilS, got_ptr, got_agg, pubs, pubsFrom, List.map_cons, List.map_nil, List.getD_cons_zero, List.getD_cons_succ, List.getElem?_cons_zero, List.getElem?_cons_succ, List.length_cons, List.length_nil, List.replicate_succ, List.replicate_zero, List.nil_append, Nat.reduceAdd, Nat.reduceLT, true_and, and_true, Bool.false_eq_true, Option.map_some, ↓reduceIte, List.all_cons, List.all_nil, Bool.and_self, List.zip_cons_cons, List.zip_nil_right, rep, fillV, List.flatten_cons, List.flatten_nil, List.append_nil, decide_true, Nat.zero_mul, Nat.zero_add, Int.cast_ofNat_Int, Nat.le_refl, app_nil]
    have hpv : pvS (.own 7) ([] ++ [P]) = .sl P.cells 1 (.own 7) := by rw [List.nil_append]; exact pvS_ne _ (l := [P]) (by simp) |>.trans (by simp)
    simp (maxSteps := 2000000) (disch := first | omega | simp only [List.length_append, List.length_cons, List.length_nil, List.length_map] <;> omega) only [List.set_cons_zero, List.set_cons_succ, exc_ptr, swp_seq, swp_reg, seqK_n, evK_some, appK_eq, srun_cons, stepK_call, sk_mv, get_mk, raw_slot, put_some, wb_nil, ev_mv, ro_ptr, got_ptr, pubs, pubsFrom, List.map_cons, List.map_nil, List.getD_cons_zero, List.getD_cons_succ, Bool.false_eq_true, ↓reduceIte, Int.cast_ofNat_Int]
    refine callK_intro (x44r (by rw [getA]; rfl)) ?_
    by_cases hE : (pC si).2.e = 0
    · have hne : ((pC si).2.e != 0) = false := by rw [hE]; rfl
      simp (maxSteps := 2000000) (disch := first | omega | simp only [List.length_append, List.length_cons, List.length_nil, List.length_map] <;> omega) only [hne, List.set_cons_zero, List.set_cons_succ, lpK_n, swp_reg, swp_skip, swp_cond, seqK_n, blkK_n, condK_f, evK_some, appK_eq, appC_eq, srun_nil, srun_cons, sk_mv, sk_bin, get_mk, raw_slot, raw_lit, put_some, wb_nil, ev_mv, bin_add, bin_neq, ro_int, List.map_cons, List.map_nil, List.getD_cons_zero, List.getD_cons_succ, Int.reduceAdd, wrap_i64]
      refine ⟨_, ?_, ⟨0 + 1, by omega, rfl⟩, by exact fin⟩
      rw [hnext]
      simp only [pcObs_snoc, hP, hpv]
      refine Forget.of ?_
      repeat first | exact fg_e | refine fg_d ?_ | refine fg_k rfl ?_
    · have hne : ((pC si).2.e != 0) = true := by rw [bne_iff_ne]; exact hE
      have hb := hbad hE
      have e1 : rdM st x = Mf.none := by unfold rdM; rw [hb]; rfl
      have e2 : rdC st x = 4 := by unfold rdC; rw [hb]; rfl
      have e3 : rdT st x = st := by unfold rdT; rw [hb]; rfl
      simp only [e1, e2, e3]
      simp (maxSteps := 2000000) (disch := first | omega | simp only [List.length_append, List.length_cons, List.length_nil, List.length_map] <;> omega) only [hne, sZ, List.set_cons_zero, List.set_cons_succ, lpK_g, flg_int, swp_seq, swp_reg, swp_skip, swp_ret, swp_goto, swp_cond, seqK_n, seqK_g, blkK_g, noG_r, scpK_g, condK_t, evK_some, appK_eq, appC_eq, srun_nil, srun_cons, sk_give, sk_bin, sk_store, sk_bld, get_mk, raw_slot, raw_lit, put_some, put_none, wb_nil, ev_give, bin_neq, ev_bld, ro_int, pubs, pubsFrom, List.map_cons, List.map_nil, List.getD_cons_zero, List.getD_cons_succ, List.length_nil, Bool.false_eq_true, Option.map_some, ↓reduceIte, List.zip_nil_right, fillV]
      exact ⟨_, _, retOf_c2 (n := 8) (id := st.length) (t := 3) (l := [.int .i64 0, .int .i64 0, .int .i64 0, .int .i64 0, .int .i64 0, .int .i64 0, .int .i64 0, .nilS]) (r := .agg [.int .i64 0, .int .i64 0, .int .i64 0, .int .i64 0, .int .i64 0, .int .i64 0, .int .i64 0, .nilS]) rfl (by rw [getA0]; rfl) rfl rfl, trim1 ho rfl, rfl, rfl⟩
  have hLn : L ≠ [] := by obtain ⟨a, b, rfl⟩ := hL; simp
  rw [pvS_ne _ hLn]
  have hFl : (L.flatMap Pc.cells).length = i * 7 := by rw [flat_len (pc_len _), hLl]
  rw [hLl]
  obtain ⟨F, eF⟩ : ∃ F, L.flatMap Pc.cells = F := ⟨_, rfl⟩
  rw [eF] at hFl ⊢
  apply swp_to
  · repeat' first
      | exact swp_ttI
      | refine swp_bothI ?_ ?_
      | refine callK_intro (kP _ _) ?_
      | exact ⟨rfl, rfl⟩
      | exact rfl
      | simp (maxSteps := 2000000) (disch := first | omega | simp only [List.length_append, List.length_cons, List.length_nil, List.length_map] <;> omega) only [mP, cP, lP, wP, st_ownW, cv_agg, getA, setA, List.set_cons_zero, List.set_cons_succ, app_own, sk_loadG, ev_loadG, apO_some, flg_own, exc_ptr, exc_agg, swp_reg, evK_some, appK_eq, appC_eq, srun_nil, srun_cons, stepK_call, sk_fld, sk_store, sk_bsl, sk_app, get_mk, raw_slot, put_some, put_none, wb_nil, wb_cons, ev_fld, ev_bsl, ro_own, got_ptr, got_agg, pubs, pubsFrom, List.map_cons, List.map_nil, List.getD_cons_zero, List.getD_cons_succ, List.getElem?_cons_zero, List.getElem?_cons_succ, List.length_cons, List.length_nil, List.replicate_succ, List.replicate_zero, Nat.reduceAdd, Nat.reduceLT, true_and, and_true, Bool.false_eq_true, Option.map_some, ↓reduceIte, List.all_cons, List.all_nil, Bool.and_self, List.zip_cons_cons, List.zip_nil_right, rep, fillV, List.flatten_cons, List.flatten_nil, List.append_nil, decide_true, Nat.zero_mul, Nat.zero_add, Nat.le_refl]
  have hpv : pvS (.own 7) (L ++ [P]) = .sl (F ++ P.cells) (i + 1) (.own 7) := by rw [pvS_ne _ (by simp), List.flatMap_append, eF, List.length_append, hLl]; simp
  simp (maxSteps := 2000000) (disch := first | omega | simp only [List.length_append, List.length_cons, List.length_nil, List.length_map] <;> omega) only [List.set_cons_zero, List.set_cons_succ, exc_ptr, swp_seq, swp_reg, seqK_n, evK_some, appK_eq, srun_cons, stepK_call, sk_mv, get_mk, raw_slot, put_some, wb_nil, ev_mv, ro_ptr, got_ptr, pubs, pubsFrom, List.map_cons, List.map_nil, List.getD_cons_zero, List.getD_cons_succ, Bool.false_eq_true, ↓reduceIte]
  refine callK_intro (x44r (by rw [getA]; rfl)) ?_
  by_cases hE : (pC si).2.e = 0
  · have hne : ((pC si).2.e != 0) = false := by rw [hE]; rfl
    simp (maxSteps := 2000000) (disch := first | omega | simp only [List.length_append, List.length_cons, List.length_nil, List.length_map] <;> omega) only [hne, List.set_cons_zero, List.set_cons_succ, lpK_n, swp_reg, swp_skip, swp_cond, seqK_n, blkK_n, condK_f, evK_some, appK_eq, appC_eq, srun_nil, srun_cons, sk_mv, sk_bin, get_mk, raw_slot, raw_lit, put_some, wb_nil, ev_mv, bin_add, bin_neq, ro_int, List.map_cons, List.map_nil, List.getD_cons_zero, List.getD_cons_succ, wrap_i64]
    refine ⟨_, ?_, ⟨i + 1, by omega, rfl⟩, by exact fin⟩
    rw [hnext]
    simp only [pcObs_snoc, hP, hpv]
    refine Forget.of ?_
    repeat first | exact fg_e | refine fg_d ?_ | refine fg_k rfl ?_
  · have hne : ((pC si).2.e != 0) = true := by rw [bne_iff_ne]; exact hE
    have hb := hbad hE
    have e1 : rdM st x = Mf.none := by unfold rdM; rw [hb]; rfl
    have e2 : rdC st x = 4 := by unfold rdC; rw [hb]; rfl
    have e3 : rdT st x = st := by unfold rdT; rw [hb]; rfl
    simp only [e1, e2, e3]
    simp (maxSteps := 2000000) (disch := first | omega | simp only [List.length_append, List.length_cons, List.length_nil, List.length_map] <;> omega) only [hne, sZ, List.set_cons_zero, List.set_cons_succ, lpK_g, flg_int, swp_seq, swp_reg, swp_skip, swp_ret, swp_goto, swp_cond, seqK_n, seqK_g, blkK_g, noG_r, scpK_g, condK_t, evK_some, appK_eq, appC_eq, srun_nil, srun_cons, sk_give, sk_bin, sk_store, sk_bld, get_mk, raw_slot, raw_lit, put_some, put_none, wb_nil, ev_give, bin_neq, ev_bld, ro_int, pubs, pubsFrom, List.map_cons, List.map_nil, List.getD_cons_zero, List.getD_cons_succ, List.length_nil, Bool.false_eq_true, Option.map_some, ↓reduceIte, List.zip_nil_right, fillV]
    exact ⟨_, _, retOf_c2 (n := 8) (id := st.length) (t := 3) (l := [.int .i64 0, .int .i64 0, .int .i64 0, .int .i64 0, .int .i64 0, .int .i64 0, .int .i64 0, .nilS]) (r := .agg [.int .i64 0, .int .i64 0, .int .i64 0, .int .i64 0, .int .i64 0, .int .i64 0, .int .i64 0, .nilS]) rfl (by rw [getA0]; rfl) rfl rfl, trim1 ho rfl, rfl, rfl⟩
end Go.Sh.F
namespace Go.Sh.F
open Go.PathLaw Go.Proofs
def KRd : List SV → List Ob → SV → List Ob → Prop := fun args st r st' => ∃ x : List UInt8, x.length ≤ 268435456 ∧ okSt st ∧ args = [.str x] ∧ r = .tup [.agg (rdM st x).cells, .int .i64 (rdC st x)] ∧ st' = rdT st x
def O213 : Orc := O212.add 22 KRd
theorem s213 : Sound Tryd.prog O213 := s212.add c22 (by kernel_rfl) (by
  rintro args st r st' ⟨x, hx, ho, rfl, rfl, rfl⟩
  exact ⟨by simp [sf22], g22r x st hx ho⟩)
def mOne (v : SV) : Mf := ⟨1, 2, 7, 3, 4, 0, 0, v, [⟨[97, 47, 98], true, 65, .sl (isv [8, 9]) 2 .ro, [8, 9], 5, 0, 1⟩, ⟨[99], false, 0, .nilS, [], 0, 1, 0⟩]⟩
def bOne : List UInt8 := bytesF (mOne .nilS)
theorem ok1 (b : Nat) : okR b bOne = true := by kernel_rfl
theorem ok2 (b : Nat) : okR b (bOne ++ [0]) = false := by kernel_rfl
theorem ok3 (b : Nat) : okR b (bOne.take 36) = false := by kernel_rfl
theorem len1 : bOne.length = 100 := by kernel_rfl
theorem ch1 : chF (mOne .nilS).ps = [8, 9] := by kernel_rfl
theorem rt1 (v : SV) : rightM (mOne v) = true := by kernel_rfl
def mOff (v : SV) : Mf := { mOne v with ps := [⟨[97, 47, 98], true, 64, .sl (isv [8, 9]) 2 .ro, [8, 9], 5, 0, 1⟩, ⟨[99], false, 0, .nilS, [], 0, 1, 0⟩] }
theorem rt2 (v : SV) : rightM (mOff v) = false := by kernel_rfl
theorem sm1 (v w : SV) : sameM (mOne v) (mOff w) = false := by kernel_rfl
theorem sm2 (b : Nat) (v : SV) : sameM (mfR .ro b bOne) (mOne v) = true := by kernel_rfl
def mTwo : Mf := ⟨1, 2, 0, 0, 0, 0, 0, .nilS, []⟩
theorem len2 : (bytesF mTwo).length = 32 := by kernel_rfl
theorem cell_sl {xs : List SV} {n : Nat} {f : Fl} : isCell (.sl xs n f) = true := rfl
theorem cell_slo {i o n : Nat} : isCell (.slo i o n) = true := rfl
theorem g26o (O : Orc) (st : List Ob) : swpF O sf26 [] st (fun r st' => r = .agg (mOne (.slo (st.length + 1) 0 2)).cells ∧ st' = st ++ [.cells (mOne (.slo (st.length + 1) 0 2)).cells, .cells ((mOne (.slo (st.length + 1) 0 2)).ps.flatMap Pc.cells)]) := by
  have sZ := st_aggA (st := st) (l := [.cells [.int .i64 0, .int .i64 0, .int .i64 0, .int .i64 0, .int .i64 0, .int .i64 0, .int .i64 0, .nilS], .cells ((mOne (.slo (st.length + 1) 0 2)).ps.flatMap Pc.cells)]) (i := 0) (n := 8) (b := true) (xs := (mOne (.slo (st.length + 1) 0 2)).cells) rfl rfl rfl rfl rfl
  simp only [mOne, Mf.cells, Pc.cells, isv, List.map_cons, List.map_nil, List.flatMap_cons, List.flatMap_nil, List.append_nil, List.cons_append, List.nil_append, Nat.add_zero, List.set_cons_zero] at sZ ⊢
  simp (maxSteps := 2000000) (disch := first | omega | simp only [List.length_append, List.length_cons, List.length_nil, List.length_map] <;> omega) only [sf26, cell_sl, cell_slo, sZ, nbI, cv_agg, cv_int, cv_str, cv_bool, cv_fn, cv_nilS, cv_nilF, cv_nilP, cv_ptr, cv_sl, cv_slo, cell_fn, eq_pair, eq_four, cell_str, cell_int, cell_bool, cell_nilS, getA0, getA, setA0, setA, ev_ldA, List.drop_succ_cons, List.drop_zero, List.take_succ_cons, List.take_zero, List.append_assoc, Nat.add_zero, List.set_cons_zero, List.set_cons_succ, lpK_n, lpK_e, lpK_r, lpK_g, Int.toNat_natCast, sk_bslO, ev_bslO, sk_storeO, ev_storeO_x, ev_storeO_nil, stepK_callp, app_own, sk_giveP, ev_giveP, pub_excl2, pub_own, sk_loadG, sk_ment, sk_mest, ev_ment, ev_mest, ev_loadG, sk_mkM, sk_lkp, sk_upd, ev_mkM, ev_mkM1, apM_some, ev_lkp, ev_lkpN, ev_upd, ev_lenMp, ev_lenMn, stepK_callv, callvK_fn, ev_idxP, sk_giveO, sk_cpy, sk_slcP, ro_slo, ro1_slo, ro2_slo, got_slo, flg_slo, exc_slo, ev_giveO_x, ev_giveO_nil, ev_giveO_slo, ev_giveO_ro, ev_lenO, ev_eqNs3, ev_idxO, apO_some, ev_b2O, ev_appO, slcO_hi, slcO_lo, slcO_both, slcP_all, ev_cpS, slcO_clone, flg_undef, flg_bool, flg_int, flg_str, flg_nilS, flg_nilP, flg_ptr, flg_agg, flg_tup, flg_nilF, flg_fn, flg_nilM, flg_mp, flg_elv, flg_ro, flg_full, flg_own, flg_excl, exc_undef, exc_bool, exc_int, exc_str, exc_nilS, exc_nilP, exc_ptr, exc_agg, exc_tup, exc_nilF, exc_fn, exc_nilM, exc_mp, exc_elv, exc_ro, exc_full, exc_own, exc_excl, sk_idxB, idxB_ro, idxB_full, idxB_own, idxB_excl, idxB_O, grd_s, swp_seq, swp_reg, swp_skip, swp_ret, swp_exit, swp_label, swp_goto, swp_block, swp_scope, swp_both, swp_cond, seqK_n, seqK_e, seqK_r, seqK_g, blkK_n, blkK_e, blkK_r, blkK_g, noG_n, noG_e, noG_r, scpK_n, scpK_e, scpK_r, scpK_g, condK_t, condK_f, evK_some, appK_eq, appC_eq, grd_t, srun_nil, srun_cons, stepK_call, stepK_grd, fin_ret, fin_n, fin_nil, fin_two, fin_three, swpF_eq, sk_mv, sk_take, sk_give, sk_pick, sk_bin, sk_eqB, sk_eqN, sk_eqA, sk_un, sk_cvI, sk_b2s, sk_s2b, sk_idS, sk_nilc, sk_fld, sk_fldV, sk_idxS, sk_idxV, sk_idxA, sk_idxP, sk_load, sk_store, sk_lenS, sk_lenL, sk_lenA, sk_lenM, sk_min, sk_max, sk_slcS, sk_slcL, sk_mkS, sk_bsl, sk_bld, sk_box, sk_alloc, sk_ext, sk_app, sk_mfn, get_mk, raw_slot, raw_lit, put_some, put_none, wb_nil, wb_cons, ev_mv, ev_take, ev_give, ev_pick, ev_eqB, ev_not, ev_cvI, ev_nilc, ev_fld, ev_lenS, ev_lenL, ev_lenN, ev_min, ev_max, ev_eqNs1, ev_eqNs2, ev_eqNp1, ev_eqNp2, ev_ext, bin_add, bin_sub, bin_mul, bin_and, bin_or, bin_xor, bin_eql, bin_neq, bin_lss, bin_leq, bin_gtr, bin_geq, bin_eqlS, bin_neqS, bin_lssS, unr_succ, unrK_n, unrK_e, unrK_r, unrK_g, ev_b2sN, bsl_nil, ev_bsl, ev_bld, ev_box, ev_alloc, ev_ldP, ldP_some, stP_some, setOb_setOb, setOb_len, ev_loadE, slcS_hi, slcS_lo, slcS_both, slcL_hi_ro, slcL_lo_ro, slcL_both_ro, idxA_ro, slcL_hi_full, slcL_lo_full, slcL_both_full, idxA_full, slcL_hi_own, slcL_lo_own, slcL_both_own, idxA_own, slcL_nil_hi, slcL_nil_both, app_excl_str, ro_undef, ro_int, ro_bool, ro_str, ro_nilS, ro_nilP, ro_nilF, ro_nilM, ro_ptr, ro_mp, ro_fn, ro_elv, ro_ro, ro_full, ro_own, ro_excl, ro_agg, ro_tup, ro1_int, ro1_str, ro1_bool, ro1_nilS, ro2_nilS, ro1_nilP, ro2_nilP, ro1_nilF, ro2_nilF, ro1_nilM, ro2_nilM, ro1_ptr, ro2_ptr, ro1_mp, ro2_mp, ro1_fn, ro2_fn, ro1_ro, ro2_ro, ro1_full, ro2_full, ro1_own, ro2_own, ro2_int, ro2_str, ro2_bool, got_excl, got_own, got_roo, got_full, got_int, got_bool, got_str, got_nilS, got_nilP, got_ptr, got_fn, got_mp, got_undef, got_agg, pub_excl, pubs, pubsFrom, List.map_cons, List.map_nil, List.getD_cons_zero, List.getD_cons_succ, List.getElem?_cons_zero, List.getElem?_cons_succ, List.length_cons, List.length_nil, List.replicate_succ, List.replicate_zero, List.cons_append, List.nil_append, Nat.reduceAdd, Nat.reduceSub, Nat.reduceMul, Nat.reduceLeDiff, Nat.reduceLT, Nat.reduceEqDiff, if_true, if_false, true_and, and_true, Bool.false_eq_true, Option.map_some, Option.bind_some, ↓reduceIte, List.all_cons, List.all_nil, Bool.and_true, Bool.and_self, List.zip_cons_cons, List.zip_nil_left, List.zip_nil_right, rep, fillV, wrCells, List.flatten_cons, List.flatten_nil, List.append_nil, decide_true, decide_false, Nat.zero_mul, Nat.mul_one, Nat.zero_add, reduceCtorEq, not_false_eq_true, forall_const, implies_true, Bool.not_true, Bool.not_false, beq_self_eq_true, bne_self_eq_false, Int.reduceBEq, Int.reduceBNe, st_bool, st_int, st_str, st_nilS, st_nilP, st_ptr, st_nilF, st_fn, st_nilM, st_mp, st_ro, st_full, setOb_same, ge_iff_le, gt_iff_lt, Int.cast_ofNat_Int, or_step, or_zero, Int.zero_mul, Int.reduceLE, Int.reduceLT, Int.reduceMul, Int.reduceSub, Int.reduceAdd, Int.reduceToNat, Int.reduceNeg, Int.reducePow, Nat.reducePow, IntKind.bits, wrap_i64, wrap_u8, bin_shr, bin_shl, Nat.min_def, ne_eq, Nat.one_ne_zero, List.length_append, Nat.le_refl, not_true_eq_false, app_excl, app_nil]
  exact ⟨_, _, retOf_cell (n := 8) (id := st.length) (l := [.int .i64 1, .int .i64 2, .int .i64 7, .int .i64 3, .int .i64 4, .int .i64 0, .int .i64 0, .slo (st.length + 1) 0 2]) rfl (by rw [getA0]; rfl) rfl rfl, .same, rfl, rfl⟩
theorem mOne_cells (v : SV) : (mOne v).cells = [.int .i64 1, .int .i64 2, .int .i64 7, .int .i64 3, .int .i64 4, .int .i64 0, .int .i64 0, v] := rfl
def oneP : List SV := (mOne .nilS).ps.flatMap Pc.cells
theorem mOne_ok {S : List Ob} {i : Nat} (h : S[i]? = some (.cells oneP)) : (mOne (.slo i 0 2)).ok S := by
  refine ⟨⟨rfl, .inr (.inr ⟨i, 0, oneP, rfl, h, Nat.le_refl _, rfl⟩)⟩, show 2 ≤ 268435456 by decide, ?_⟩
  intro p hp
  simp only [mOne, List.mem_cons, List.not_mem_nil, or_false] at hp
  rcases hp with rfl | rfl
  · exact ⟨RowI.mk (.inl rfl) rfl, show 2 ≤ 268435456 by decide, show 3 ≤ 268435456 by decide⟩
  · exact ⟨RowI.nil _, show 0 ≤ 268435456 by decide, show 1 ≤ 268435456 by decide⟩
theorem mOne_fit (v : SV) : (mOne v).fit := by exact ⟨show -9223372036854775808 ≤ (2 : Int) by decide, show (2 : Int) ≤ 9223372036854775807 by decide⟩
theorem mOne_fitB (v : SV) : fitB (mOne v) := by
  refine ⟨show 2 ≤ 1024 by decide, ?_⟩
  intro p hp
  simp only [mOne, List.mem_cons, List.not_mem_nil, or_false] at hp
  rcases hp with rfl | rfl
  · exact show 2 ≤ 32768 by decide
  · exact show 0 ≤ 32768 by decide
def K26o : List SV → List Ob → SV → List Ob → Prop := fun args st r st' => args = [] ∧ r = .agg (mOne (.slo (st.length + 1) 0 2)).cells ∧ st' = st ++ [.cells (mOne (.slo (st.length + 1) 0 2)).cells, .cells oneP]
def O214 : Orc := O213.add 26 K26o
theorem s214 : Sound Tryd.prog O214 := s213.add c26 (by kernel_rfl) (by
  rintro args st r st' ⟨rfl, rfl, rfl⟩
  exact ⟨by simp [sf26], g26o _ st⟩)
theorem rdT_ext (st : List Ob) (x : List UInt8) : ∃ X, rdT st x = st ++ X := by
  unfold rdT; split
  · exact ⟨_, rfl⟩
  · exact ⟨[], by simp⟩
theorem rdM_ok {st : List Ob} {x : List UInt8} (hx : x.length ≤ 268435456) (ho : okSt st) : (rdM st x).ok (rdT st x) ∧ okSt (rdT st x) ∧ (rdM st x).fit ∧ fitB (rdM st x) := by
  by_cases hb : okR (st.length + 3) x = true
  · unfold rdM rdT
    rw [if_pos hb, if_pos hb]
    have hs0 : rdOk (.sl (W.bsv x) x.length .ro) ⟨x, 0, 0⟩ := ⟨rdv_s x, by show x.length ≤ _; omega, Nat.zero_le _⟩
    obtain ⟨hs1, hl1, _⟩ := rdOk_nums (most := MX) 7 hs0
    obtain ⟨nn, hn1, hn2⟩ := numF_le (s := (hdS x).2) (most := 32) (by decide) hs1.2.2
    obtain ⟨hs2, hl2⟩ := rdOk_num hs1 32
    have hk : (rdP (st.length + 3) x).1.length = nn := by
      unfold rdP; rw [psF_len, show (rdN x).1 = (nn : Int) from hn1, Int.toNat_natCast]
    have hrow : ∀ p ∈ (rdP (st.length + 3) x).1, p.ok (st ++ (.cells (mfR .ro (st.length + 3) x).cells :: .cells (mfR (.own 7) (st.length + 3) x).cells :: .cells [.sl (W.bsv x) x.length .ro, .int .i64 (W.endF (rdP (st.length + 3) x).2).p, .int .i64 (W.endF (rdP (st.length + 3) x).2).e] :: pcObs (rdP (st.length + 3) x).1)) ∧ p.ch.length ≤ 10 ∧ p.path.length ≤ x.length := by
      have := psF_row (st := st) (A := .cells (mfR .ro (st.length + 3) x).cells) (B := .cells (mfR (.own 7) (st.length + 3) x).cells) (C := .cells [.sl (W.bsv x) x.length .ro, .int .i64 (W.endF (rdP (st.length + 3) x).2).p, .int .i64 (W.endF (rdP (st.length + 3) x).2).e]) (rdN x).1.toNat hs2 (by rw [hl2, hl1]; exact hx)
      rw [hl2, hl1] at this
      exact this
    have hids := fun p hp => RowI.idOk (hrow p hp).1.1
    refine ⟨⟨row_pvS _ _, by show (rdP (st.length + 3) x).1.length ≤ _; omega, fun p hp => (hrow p hp).1⟩, okSt_ps ho (fun p hp => (hrow p hp).1) ?_ ?_ ?_, ?_, ?_, ?_⟩
    · show idOks _ _ = true
      simp only [Mf.cells, idOks, idOk, Bool.true_and, Bool.and_true]
      exact idOk_pvS hids
    · show idOks _ _ = true
      simp only [Mf.cells, idOks, idOk, Bool.true_and, Bool.and_true]
      exact idOk_pvS hids
    · show idOks _ _ = true
      simp only [idOks, idOk, Bool.true_and, Bool.and_true]
      exact idOks_bsvW x
    · have := numsF_le 7 hs0 (mfR .ro (st.length + 3) x).ve (by
        show (hdS x).1.getD 1 0 ∈ (hdS x).1
        have h7 : (hdS x).1.length = 7 := (rdOk_nums (most := MX) 7 hs0).2.2
        rw [List.getD_eq_getElem?_getD, List.getElem?_eq_getElem (by omega)]
        exact List.getElem_mem _)
      unfold Mf.fit; exact ⟨by omega, by have := this.2; simp only [MX] at this; omega⟩
    · show (rdP (st.length + 3) x).1.length ≤ _; omega
    · intro p hp; have := (hrow p hp).2.1; omega
  · unfold rdM rdT
    rw [if_neg hb, if_neg hb]
    exact ⟨Mf.none_ok _, ho, by unfold Mf.fit Mf.none; exact ⟨by decide, by decide⟩, by decide, by simp [Mf.none]⟩
end Go.Sh.F
namespace Go.Sh.F
open Go.PathLaw Go.Proofs
theorem y18 {m : Mf} {st : List Ob} (h : m.ok st) (hf : m.fit) (ho : okSt st) : O214 18 [.agg m.cells] st (.bool (rightM m)) st := (by repeat first | exact Or.inr ⟨rfl, rfl, m, h, hf, ho, rfl, rfl⟩ | refine Or.inl ?_)
theorem y20 {m : Mf} {st : List Ob} (h : m.ok st) (hf : fitB m) (ho : okSt st) : O214 20 [.agg m.cells] st (.str (bytesF m)) st := (by repeat first | exact Or.inr ⟨rfl, rfl, m, h, hf, ho, rfl, rfl⟩ | refine Or.inl ?_)
theorem y22 {x : List UInt8} {st : List Ob} (hx : x.length ≤ 268435456) (ho : okSt st) : O214 22 [.str x] st (.tup [.agg (rdM st x).cells, .int .i64 (rdC st x)]) (rdT st x) := .inl (.inr ⟨rfl, x, hx, ho, rfl, rfl, rfl⟩)
theorem y22f {x : List UInt8} {st : List Ob} (hx : x.length ≤ 268435456) (ho : okSt st) (hb : ∀ b, okR b x = false) : O214 22 [.str x] st (.tup [.agg Mf.none.cells, .int .i64 4]) st := by
  have := y22 hx ho
  have e1 : rdM st x = Mf.none := by unfold rdM; rw [hb]; rfl
  have e2 : rdC st x = 4 := by unfold rdC; rw [hb]; rfl
  have e3 : rdT st x = st := by unfold rdT; rw [hb]; rfl
  rwa [e1, e2, e3] at this
theorem y16 {m : Mf} {st : List Ob} (h : m.ok st) (hf : fitB m) (ho : okSt st) : O214 16 [.agg m.cells] st (chV (chF m.ps)) st := (by repeat first | exact Or.inr ⟨rfl, rfl, m, h, hf, ho, rfl, rfl⟩ | refine Or.inl ?_)
theorem y14 {a b : Mf} {st : List Ob} (ha : a.ok st) (hb : b.ok st) (ho : okSt st) : O214 14 [.agg a.cells, .agg b.cells] st (.bool (sameM a b)) st := (by repeat first | exact Or.inr ⟨rfl, rfl, a, b, ha, hb, ho, rfl, rfl⟩ | refine Or.inl ?_)
theorem y26 (st : List Ob) : O214 26 [] st (.agg (mOne (.slo (st.length + 1) 0 2)).cells) (st ++ [.cells (mOne (.slo (st.length + 1) 0 2)).cells, .cells oneP]) := .inr ⟨rfl, rfl, rfl, rfl⟩
theorem y12 {m : Mf} {st : List Ob} (h : m.ok st) (hc : ∀ p ∈ m.ps, p.ch.length ≤ 1048576) (ho : okSt st) : O214 12 [.agg m.cells] st (.agg (cpM st m).cells) (cpS st m) :=
  .inl (.inl (.inl (.inl (.inl (.inl (.inl (.inl (.inl (.inl (.inl (.inl (.inl (.inl (.inl (.inr ⟨rfl, m, h, hc, ho, rfl, rfl, rfl⟩)))))))))))))))
def Z8 : List SV := [.int .i64 0, .int .i64 0, .int .i64 0, .int .i64 0, .int .i64 0, .int .i64 0, .int .i64 0, .nilS]
theorem ro1_mf {st : List Ob} {m : Mf} (h : m.ok st) : m.cells.map ro1 = m.cells := by
  obtain ⟨q1, q2, q3, q4, q6, q7⟩ := h.1.facts
  simp only [Mf.cells, List.map_cons, List.map_nil, ro1_int, q6]
theorem cell_mf {st : List Ob} {m : Mf} (h : m.ok st) : m.cells.all isCell = true := by
  obtain ⟨q1, q2, q3, q4, q6, q7⟩ := h.1.facts
  simp only [Mf.cells, List.all_cons, List.all_nil, cell_int, q7, Bool.and_self]
theorem stM {st l : List Ob} {i : Nat} {c : List SV} {m : Mf} {S : List Ob} (hl : l[i]? = some (.cells c)) (hc : c.length = 8) (hm : m.ok S) : ev (st ++ l) (.store 8 true) [.ptr (st.length + i) 0, .agg m.cells] = some (.undef, [], st ++ l.set i (.cells m.cells)) :=
  st_aggA hl (ro1_mf hm) (cell_mf hm) rfl hc
def offP : List SV := oneP.set 2 (.int .i64 64)
theorem mOff_ok {S : List Ob} {i : Nat} (h : S[i]? = some (.cells offP)) : (mOff (.slo i 0 2)).ok S := by
  refine ⟨⟨rfl, .inr (.inr ⟨i, 0, offP, rfl, h, Nat.le_refl _, rfl⟩)⟩, show 2 ≤ 268435456 by decide, ?_⟩
  intro p hp
  simp only [mOff, List.mem_cons, List.not_mem_nil, or_false] at hp
  rcases hp with rfl | rfl
  · exact ⟨RowI.mk (.inl rfl) rfl, show 2 ≤ 268435456 by decide, show 3 ≤ 268435456 by decide⟩
  · exact ⟨RowI.nil _, show 0 ≤ 268435456 by decide, show 1 ≤ 268435456 by decide⟩
set_option maxHeartbeats 32000000 in
set_option maxRecDepth 50000 in
theorem g10s (st : List Ob) (ho : okSt st) : swpF O214 sf10 [] st (fun r st' => r = .bool true ∧ st' = st) := by
  have hv1 : (st ++ [Ob.cells (mOne (.slo (st.length + 1) 0 2)).cells, .cells oneP])[st.length + 1]? = some (.cells oneP) := by rw [getA]; rfl
  simp (maxSteps := 2000000) (disch := first | omega | simp only [List.length_append, List.length_cons, List.length_nil, List.length_map] <;> omega) only [sf10, List.set_cons_zero, flg_bool, swp_seq, swp_reg, seqK_n, evK_some, appK_eq, srun_nil, srun_cons, stepK_call, swpF_eq, sk_give, raw_lit, put_some, wb_nil, ev_give, ro_bool, pubs, pubsFrom, List.map_cons, List.map_nil, List.length_nil, List.replicate_succ, List.replicate_zero, List.nil_append, Nat.reduceSub, Bool.false_eq_true, ↓reduceIte]
  refine callK_intro (y26 _) ?_
  have ok1 : (mOne (.slo (st.length + 1) 0 2)).ok (st ++ [.cells (mOne (.slo (st.length + 1) 0 2)).cells, .cells oneP]) := mOne_ok hv1
  have sM1 := stM (st := st) (l := [.cells (mOne (.slo (st.length + 1) 0 2)).cells, .cells oneP, .cells Z8]) (i := 2) rfl rfl ok1
  simp only [Z8, List.set_cons_succ, List.set_cons_zero] at sM1
  have r1 := ro1_mf ok1
  have len8 : ∀ v, (mOne v).cells.length = 8 := fun _ => rfl
  have tk8 : ∀ v, (mOne v).cells.take 8 = (mOne v).cells := fun _ => rfl
  simp (maxSteps := 2000000) (disch := first | omega | simp only [List.length_append, List.length_cons, List.length_nil, List.length_map] <;> omega) only [sM1, r1, len8, tk8, getA, ev_ldA, List.drop_zero, List.append_assoc, List.set_cons_zero, List.set_cons_succ, apO_some, exc_agg, swp_seq, swp_reg, seqK_n, evK_some, appK_eq, appC_eq, srun_nil, srun_cons, stepK_call, sk_load, sk_store, sk_alloc, get_mk, raw_slot, put_some, put_none, wb_nil, ev_alloc, ro_agg, got_agg, pubs, pubsFrom, List.map_cons, List.map_nil, List.getD_cons_zero, List.getD_cons_succ, List.getElem?_cons_zero, List.getElem?_cons_succ, List.length_cons, List.length_nil, List.cons_append, List.nil_append, Nat.reduceAdd, Bool.false_eq_true, ↓reduceIte, Nat.zero_add, List.length_append, Nat.le_refl]
  have okT : okSt (st ++ [.cells (mOne (.slo (st.length + 1) 0 2)).cells, .cells oneP, .cells (mOne (.slo (st.length + 1) 0 2)).cells]) := by
    refine okSt_appL ho ?_
    simp only [List.length_cons, List.length_nil, List.all_cons, List.all_nil, Bool.and_true, obOk, mOne_cells, idOks, idOk, Bool.true_and, Bool.and_eq_true, decide_eq_true_eq]
    exact ⟨by omega, rfl, by omega⟩
  have okm : (mOne (.slo (st.length + 1) 0 2)).ok (st ++ [.cells (mOne (.slo (st.length + 1) 0 2)).cells, .cells oneP, .cells (mOne (.slo (st.length + 1) 0 2)).cells]) := mOne_ok (by rw [getA]; rfl)
  have gT : ∀ x, ((st ++ [.cells (mOne (.slo (st.length + 1) 0 2)).cells, .cells oneP, .cells (mOne (.slo (st.length + 1) 0 2)).cells]) ++ x)[st.length + 2]? = some (.cells (mOne (.slo (st.length + 1) 0 2)).cells) := fun x => by rw [List.append_assoc, getA]; rfl
  have eT : ∃ x, st ++ [.cells (mOne (.slo (st.length + 1) 0 2)).cells, .cells oneP, .cells (mOne (.slo (st.length + 1) 0 2)).cells] = st ++ x := ⟨_, rfl⟩
  generalize st ++ [.cells (mOne (.slo (st.length + 1) 0 2)).cells, .cells oneP, .cells (mOne (.slo (st.length + 1) 0 2)).cells] = T at okT okm gT eT ⊢
  have fB := mOne_fitB (.slo (st.length + 1) 0 2)
  have fF := mOne_fit (.slo (st.length + 1) 0 2)
  have hbO : bytesF (mOne (.slo (st.length + 1) 0 2)) = bOne := rfl
  have hch : chF (mOne (.slo (st.length + 1) 0 2)).ps = [8, 9] := ch1
  have hrt := rt1 (.slo (st.length + 1) 0 2)
  have hsm := fun b => sm2 b (.slo (st.length + 1) 0 2)
  have hso := fun w => sm1 (.slo (st.length + 1) 0 2) w
  have hcc : ∀ p ∈ (mOne (.slo (st.length + 1) 0 2)).ps, p.ch.length ≤ 1048576 := fun p hp => by have := fB.2 p hp; omega
  have hl8 : (mOne (.slo (st.length + 1) 0 2)).cells.length = 8 := rfl
  have ht8 : (mOne (.slo (st.length + 1) 0 2)).cells.take 8 = (mOne (.slo (st.length + 1) 0 2)).cells := rfl
  generalize mOne (.slo (st.length + 1) 0 2) = m1 at okm gT fB fF hbO hch hrt hsm hso hcc hl8 ht8 r1 ⊢
  generalize st.length + 2 = i1 at gT ⊢
  have hadd : ∀ s, ev s (.bin .add) [.str bOne, .str [0]] = some (.str (bOne ++ [0]), [], s) := fun s => rfl
  have hand : ∀ s, ev s (.bin .and) [.int .i64 (bOne.length : Int), .int .i64 63] = some (.int .i64 36, [], s) := fun s => by rw [len1]; rfl
  have hcut : ∀ s, ev s (.slcS false true) [.str bOne, .int .i64 36] = some (.str (bOne.take 36), [], s) := fun s => by rw [slcS_hi (by decide) (by rw [len1]; decide)]; rfl
  have k20 := y20 okm fB okT
  rw [hbO] at k20
  refine callK_intro k20 ?_
  simp (maxSteps := 2000000) (disch := first | omega | simp only [List.length_append, List.length_cons, List.length_nil, List.length_map] <;> omega) only [List.set_cons_zero, List.set_cons_succ, flg_str, exc_str, swp_seq, swp_reg, seqK_n, evK_some, appK_eq, appC_eq, srun_nil, srun_cons, stepK_call, sk_mv, sk_give, get_mk, raw_slot, put_some, wb_nil, ev_mv, ev_give, ro_str, got_str, pubs, pubsFrom, List.map_cons, List.map_nil, List.getD_cons_zero, List.getD_cons_succ, Bool.false_eq_true, ↓reduceIte]
  have hbl : bOne.length ≤ 268435456 := by rw [len1]; decide
  have k22 := y22 hbl okT
  obtain ⟨okm2, okT2, fit2, fB2⟩ := rdM_ok hbl okT
  have hs2 : sameM (rdM T bOne) m1 = true := by unfold rdM; rw [if_pos (Go.Sh.F.ok1 _)]; exact hsm _
  have hc2 : rdC T bOne = 0 := by unfold rdC; rw [if_pos (Go.Sh.F.ok1 _)]
  rw [hc2] at k22
  obtain ⟨X2, hX2⟩ := rdT_ext T bOne
  have okmB : m1.ok (rdT T bOne) := by rw [hX2]; exact okm.mono _
  have gT2 : ∀ x, (rdT T bOne ++ x)[i1]? = some (.cells m1.cells) := fun x => by rw [hX2, List.append_assoc]; exact gT _
  have eT2 : ∃ x, rdT T bOne = st ++ x := by obtain ⟨y, rfl⟩ := eT; exact ⟨y ++ X2, by rw [hX2, List.append_assoc]⟩
  generalize rdT T bOne = T2 at k22 okm2 okT2 okmB gT2 eT2
  generalize rdM T bOne = m2 at k22 okm2 fit2 fB2 hs2
  refine callK_intro k22 ?_
  have r2 := ro1_mf okm2
  have l2 : m2.cells.length = 8 := rfl
  have t2 : m2.cells.take 8 = m2.cells := rfl
  have sM2 := stM (st := T2) (l := [.cells [.int .i64 0, .int .i64 0, .int .i64 0, .int .i64 0, .int .i64 0, .int .i64 0, .int .i64 0, .nilS]]) (i := 0) rfl rfl okm2
  simp only [List.set_cons_zero, Nat.add_zero] at sM2
  simp (maxSteps := 2000000) (disch := first | omega | simp only [List.length_append, List.length_cons, List.length_nil, List.length_map] <;> omega) only [hadd, sM2, r2, List.set_cons_zero, List.set_cons_succ, flg_int, flg_agg, exc_str, swp_seq, swp_reg, seqK_n, evK_some, appK_eq, appC_eq, srun_nil, srun_cons, stepK_call, sk_mv, sk_give, sk_bin, sk_store, sk_alloc, sk_ext, get_mk, raw_slot, raw_lit, put_some, put_none, wb_nil, ev_mv, ev_give, ev_ext, ev_alloc, ro_int, ro_str, ro_agg, ro_tup, ro2_int, got_str, pubs, pubsFrom, List.map_cons, List.map_nil, List.getD_cons_zero, List.getD_cons_succ, List.getElem?_cons_zero, List.getElem?_cons_succ, Bool.false_eq_true, Option.map_some, ↓reduceIte]
  have okU : okSt (T2 ++ [.cells m2.cells]) := okM okm2 okT2
  refine callK_intro (y22f (by rw [List.length_append, len1]; decide) okU ok2) ?_
  have sN1 := stM (st := T2) (l := [.cells m2.cells, .cells [.int .i64 0, .int .i64 0, .int .i64 0, .int .i64 0, .int .i64 0, .int .i64 0, .int .i64 0, .nilS]]) (i := 1) rfl rfl (Mf.none_ok [])
  simp only [List.set_cons_zero, List.set_cons_succ] at sN1
  have rN := ro1_mf (Mf.none_ok [])
  simp (maxSteps := 2000000) (disch := first | omega | simp only [List.length_append, List.length_cons, List.length_nil, List.length_map] <;> omega) only [hand, hcut, sN1, rN, List.append_assoc, List.set_cons_zero, List.set_cons_succ, flg_int, flg_agg, exc_str, swp_seq, swp_reg, seqK_n, evK_some, appK_eq, appC_eq, srun_nil, srun_cons, stepK_call, sk_mv, sk_give, sk_bin, sk_store, sk_lenS, sk_slcS, sk_alloc, sk_ext, get_mk, raw_slot, raw_lit, put_some, put_none, wb_nil, ev_mv, ev_give, ev_lenS, ev_ext, ev_alloc, ro_int, ro_str, ro_agg, ro_tup, ro2_int, got_str, pubs, pubsFrom, List.map_cons, List.map_nil, List.getD_cons_zero, List.getD_cons_succ, List.getElem?_cons_zero, List.getElem?_cons_succ, List.length_cons, List.length_nil, List.cons_append, List.nil_append, Bool.false_eq_true, Option.map_some, ↓reduceIte, Nat.zero_add, List.length_append]
  have okU2 : okSt (T2 ++ [.cells m2.cells, .cells Mf.none.cells]) := by
    have := okM (Mf.none_ok _) okU
    simpa only [List.append_assoc, List.cons_append, List.nil_append] using this
  refine callK_intro (y22f (by rw [List.length_take, len1]; decide) okU2 ok3) ?_
  have sN2 := stM (st := T2) (l := [.cells m2.cells, .cells Mf.none.cells, .cells [.int .i64 0, .int .i64 0, .int .i64 0, .int .i64 0, .int .i64 0, .int .i64 0, .int .i64 0, .nilS]]) (i := 2) rfl rfl (Mf.none_ok [])
  simp only [List.set_cons_zero, List.set_cons_succ] at sN2
  simp (maxSteps := 2000000) (disch := first | omega | simp only [List.length_append, List.length_cons, List.length_nil, List.length_map] <;> omega) only [sN2, rN, gT2, r1, hl8, ht8, ev_ldA, List.drop_zero, List.append_assoc, List.set_cons_zero, List.set_cons_succ, apO_some, flg_int, flg_agg, exc_agg, swp_seq, swp_reg, seqK_n, evK_some, appK_eq, appC_eq, srun_nil, srun_cons, stepK_call, sk_mv, sk_give, sk_load, sk_store, sk_alloc, sk_ext, get_mk, raw_slot, put_some, put_none, wb_nil, ev_mv, ev_give, ev_ext, ev_alloc, ro_int, ro_agg, ro_tup, ro2_int, got_agg, pubs, pubsFrom, List.map_cons, List.map_nil, List.getD_cons_zero, List.getD_cons_succ, List.getElem?_cons_zero, List.getElem?_cons_succ, List.length_cons, List.length_nil, List.cons_append, List.nil_append, Nat.reduceAdd, Bool.false_eq_true, Option.map_some, ↓reduceIte, Nat.zero_add, List.length_append, Nat.le_refl]
  have okT3 : okSt (T2 ++ [.cells m2.cells, .cells Mf.none.cells, .cells Mf.none.cells]) := by
    have := okM (Mf.none_ok _) okU2
    simpa only [List.append_assoc, List.cons_append, List.nil_append] using this
  have okmC : m1.ok (T2 ++ [.cells m2.cells, .cells Mf.none.cells, .cells Mf.none.cells]) := okmB.mono _
  have okm2C : m2.ok (T2 ++ [.cells m2.cells, .cells Mf.none.cells, .cells Mf.none.cells]) := okm2.mono _
  have gT3 : ∀ x, ((T2 ++ [.cells m2.cells, .cells Mf.none.cells, .cells Mf.none.cells]) ++ x)[i1]? = some (.cells m1.cells) := fun x => by rw [List.append_assoc]; exact gT2 _
  have gM3 : ∀ x, ((T2 ++ [.cells m2.cells, .cells Mf.none.cells, .cells Mf.none.cells]) ++ x)[T2.length]? = some (.cells m2.cells) := fun x => by rw [List.append_assoc, getA0]; rfl
  have eT3 : ∃ x, T2 ++ [.cells m2.cells, .cells Mf.none.cells, .cells Mf.none.cells] = st ++ x := by obtain ⟨y, rfl⟩ := eT2; exact ⟨y ++ _, List.append_assoc ..⟩
  generalize T2 ++ [.cells m2.cells, .cells Mf.none.cells, .cells Mf.none.cells] = T3 at okT3 okmC okm2C gT3 gM3 eT3 ⊢
  generalize T2.length = i3 at gM3 ⊢
  have k12 := y12 okmC hcc okT3
  have okm4 := cpM_ok okmC
  have okT4 := cpS_okSt okmC okT3
  have pl4 := (sameM_iff _ _).2 (cpM_pl T3 m1)
  obtain ⟨X4, hX4⟩ := cpS_app T3 m1
  have okmD : m1.ok (cpS T3 m1) := by rw [hX4]; exact okmC.mono _
  have okm2D : m2.ok (cpS T3 m1) := by rw [hX4]; exact okm2C.mono _
  have gT4 : ∀ x, (cpS T3 m1 ++ x)[i1]? = some (.cells m1.cells) := fun x => by rw [hX4, List.append_assoc]; exact gT3 _
  have gM4 : ∀ x, (cpS T3 m1 ++ x)[i3]? = some (.cells m2.cells) := fun x => by rw [hX4, List.append_assoc]; exact gM3 _
  have eT4 : ∃ x, cpS T3 m1 = st ++ x := by obtain ⟨y, rfl⟩ := eT3; exact ⟨y ++ X4, by rw [hX4, List.append_assoc]⟩
  generalize cpS T3 m1 = T4 at k12 okm4 okT4 okmD okm2D gT4 gM4 eT4
  generalize cpM T3 m1 = m4 at k12 okm4 pl4
  refine callK_intro k12 ?_
  have r4 := ro1_mf okm4
  have l4 : m4.cells.length = 8 := rfl
  have t4 : m4.cells.take 8 = m4.cells := rfl
  have sM4 := stM (st := T4) (l := [.cells [.int .i64 0, .int .i64 0, .int .i64 0, .int .i64 0, .int .i64 0, .int .i64 0, .int .i64 0, .nilS]]) (i := 0) rfl rfl okm4
  simp only [List.set_cons_zero, Nat.add_zero] at sM4
  simp (maxSteps := 2000000) (disch := first | omega | simp only [List.length_append, List.length_cons, List.length_nil, List.length_map] <;> omega) only [sM4, gT4, r1, hl8, ht8, ev_ldA, List.drop_zero, List.set_cons_zero, List.set_cons_succ, apO_some, exc_agg, swp_seq, swp_reg, seqK_n, evK_some, appK_eq, appC_eq, srun_nil, srun_cons, stepK_call, sk_load, sk_store, sk_alloc, get_mk, raw_slot, put_some, put_none, wb_nil, ev_alloc, ro_agg, got_agg, pubs, pubsFrom, List.map_cons, List.map_nil, List.getD_cons_zero, List.getD_cons_succ, Bool.false_eq_true, ↓reduceIte, Nat.zero_add, Nat.le_refl]
  have okV : okSt (T4 ++ [.cells m4.cells]) := okM okm4 okT4
  have k16 := y16 (okmD.mono [.cells m4.cells]) fB okV
  rw [hch] at k16
  refine callK_intro k16 ?_
  simp (maxSteps := 2000000) (disch := first | omega | simp only [List.length_append, List.length_cons, List.length_nil, List.length_map] <;> omega) only [chV_not (l := [8, 9]) (by simp), List.set_cons_zero, List.set_cons_succ, flg_excl, swp_seq, swp_reg, seqK_n, evK_some, appK_eq, appC_eq, srun_nil, srun_cons, stepK_call, sk_give, get_mk, raw_slot, put_some, wb_nil, wb_cons, ev_give, ro_excl, pubs, pubsFrom, List.map_cons, List.map_nil, List.getD_cons_zero, List.getD_cons_succ, List.getElem?_cons_zero, List.length_cons, List.length_nil, Nat.reduceAdd, ↓reduceIte, Nat.zero_add]
  have k26 := y26 (T4 ++ [.cells m4.cells])
  have e26 : (T4 ++ [Ob.cells m4.cells]).length + 1 = T4.length + 2 := by simp
  rw [e26] at k26
  refine callK_intro k26 ?_
  have sM5 := stM (st := T4) (l := [.cells m4.cells, .cells (mOne (.slo (T4.length + 2) 0 2)).cells, .cells oneP, .cells [.int .i64 0, .int .i64 0, .int .i64 0, .int .i64 0, .int .i64 0, .int .i64 0, .int .i64 0, .nilS]]) (i := 3) rfl rfl (mOne_ok (S := T4 ++ [.cells m4.cells, .cells (mOne (.slo (T4.length + 2) 0 2)).cells, .cells oneP]) (i := T4.length + 2) (by rw [getA]; rfl))
  simp only [List.set_cons_zero, List.set_cons_succ] at sM5
  have h7 : (mOne (.slo (T4.length + 2) 0 2)).cells[7]? = some (.slo (T4.length + 2) 0 2) := rfl
  have sP : ev (T4 ++ [.cells m4.cells, .cells (mOne (.slo (T4.length + 2) 0 2)).cells, .cells oneP, .cells (mOne (.slo (T4.length + 2) 0 2)).cells]) (.store 1 false) [.ptr (T4.length + 2) 2, .int .i64 64] = some (.undef, [], T4 ++ [.cells m4.cells, .cells (mOne (.slo (T4.length + 2) 0 2)).cells, .cells offP, .cells (mOne (.slo (T4.length + 2) 0 2)).cells]) := by
    rw [st_int, getA]
    show stP (some (.cells oneP)) _ _ _ _ = _
    rw [stP_some, if_pos (by decide), setA]; rfl
  simp (maxSteps := 2000000) (disch := first | omega | simp only [List.length_append, List.length_cons, List.length_nil, List.length_map] <;> omega) only [sM5, h7, sP, getA, ev_ldA, List.drop_zero, List.append_assoc, Nat.add_zero, List.set_cons_zero, List.set_cons_succ, ro_slo, sk_idxB, idxB_O, swp_seq, swp_reg, seqK_n, evK_some, appK_eq, appC_eq, srun_nil, srun_cons, sk_fld, sk_load, sk_store, sk_alloc, get_mk, raw_slot, raw_lit, put_some, put_none, wb_nil, ev_fld, ev_alloc, ev_ldP, ldP_some, ro_agg, List.map_cons, List.map_nil, List.getD_cons_zero, List.getD_cons_succ, List.getElem?_cons_zero, List.getElem?_cons_succ, List.length_cons, List.length_nil, List.cons_append, List.nil_append, Nat.reduceAdd, Option.map_some, Nat.zero_mul, Nat.zero_add, Int.reduceToNat, List.length_append]
  have okT5 : okSt (T4 ++ [Ob.cells m4.cells, .cells (mOne (.slo (T4.length + 2) 0 2)).cells, .cells offP, .cells (mOne (.slo (T4.length + 2) 0 2)).cells]) := by
    have := okSt_appL (st := T4 ++ [Ob.cells m4.cells]) (x := [.cells (mOne (.slo (T4.length + 2) 0 2)).cells, .cells offP, .cells (mOne (.slo (T4.length + 2) 0 2)).cells]) okV (by
      simp only [List.length_append, List.length_cons, List.length_nil, List.all_cons, List.all_nil, Bool.and_true, obOk, mOne_cells, idOks, idOk, Bool.true_and, Bool.and_eq_true, decide_eq_true_eq]
      exact ⟨by omega, rfl, by omega⟩)
    simpa only [List.append_assoc, List.cons_append, List.nil_append] using this
  have ok1E := okmD.mono [Ob.cells m4.cells, .cells (mOne (.slo (T4.length + 2) 0 2)).cells, .cells offP, .cells (mOne (.slo (T4.length + 2) 0 2)).cells]
  have ok2E := okm2D.mono [Ob.cells m4.cells, .cells (mOne (.slo (T4.length + 2) 0 2)).cells, .cells offP, .cells (mOne (.slo (T4.length + 2) 0 2)).cells]
  have ok4E := okm4.mono [Ob.cells m4.cells, .cells (mOne (.slo (T4.length + 2) 0 2)).cells, .cells offP, .cells (mOne (.slo (T4.length + 2) 0 2)).cells]
  have ok5E : (mOff (.slo (T4.length + 2) 0 2)).ok (T4 ++ [Ob.cells m4.cells, .cells (mOne (.slo (T4.length + 2) 0 2)).cells, .cells offP, .cells (mOne (.slo (T4.length + 2) 0 2)).cells]) := mOff_ok (by rw [getA]; rfl)
  have gT5 := gT4 [Ob.cells m4.cells, .cells (mOne (.slo (T4.length + 2) 0 2)).cells, .cells offP, .cells (mOne (.slo (T4.length + 2) 0 2)).cells]
  have gM5 := gM4 [Ob.cells m4.cells, .cells (mOne (.slo (T4.length + 2) 0 2)).cells, .cells offP, .cells (mOne (.slo (T4.length + 2) 0 2)).cells]
  have gA5 : (T4 ++ [Ob.cells m4.cells, .cells (mOne (.slo (T4.length + 2) 0 2)).cells, .cells offP, .cells (mOne (.slo (T4.length + 2) 0 2)).cells])[T4.length]? = some (.cells m4.cells) := by rw [getA0]; rfl
  have gO5 : (T4 ++ [Ob.cells m4.cells, .cells (mOne (.slo (T4.length + 2) 0 2)).cells, .cells offP, .cells (mOne (.slo (T4.length + 2) 0 2)).cells])[T4.length + 3]? = some (.cells (mOff (.slo (T4.length + 2) 0 2)).cells) := by rw [getA]; rfl
  have eT5 : ∃ x, T4 ++ [Ob.cells m4.cells, .cells (mOne (.slo (T4.length + 2) 0 2)).cells, .cells offP, .cells (mOne (.slo (T4.length + 2) 0 2)).cells] = st ++ x := by obtain ⟨y, rfl⟩ := eT4; exact ⟨y ++ _, List.append_assoc ..⟩
  generalize T4 ++ [Ob.cells m4.cells, .cells (mOne (.slo (T4.length + 2) 0 2)).cells, .cells offP, .cells (mOne (.slo (T4.length + 2) 0 2)).cells] = T5 at okT5 ok1E ok2E ok4E ok5E gT5 gM5 gA5 gO5 eT5 ⊢
  have r5 := ro1_mf ok5E
  have l5 : (mOff (.slo (T4.length + 2) 0 2)).cells.length = 8 := rfl
  have t5 : (mOff (.slo (T4.length + 2) 0 2)).cells.take 8 = (mOff (.slo (T4.length + 2) 0 2)).cells := rfl
  have f5 : (mOff (.slo (T4.length + 2) 0 2)).fit := mOne_fit (.slo (T4.length + 2) 0 2)
  have pR5 := rt2 (.slo (T4.length + 2) 0 2)
  have pS5 := hso (.slo (T4.length + 2) 0 2)
  generalize mOff (.slo (T4.length + 2) 0 2) = m5 at r5 l5 t5 f5 pR5 pS5 ok5E gO5
  generalize T4.length + 3 = i5 at gO5 ⊢
  generalize T4.length = i4 at gA5 ⊢
  have k1 := y18 ok1E fF okT5
  have k2 := y18 ok5E f5 okT5
  have k3 : O214 18 [.agg [.int .i64 0, .int .i64 0, .int .i64 0, .int .i64 0, .int .i64 0, .int .i64 0, .int .i64 0, .nilS]] T5 (.bool false) T5 := y18 (m := Mf.none) (Mf.none_ok _) (by unfold Mf.fit Mf.none; exact ⟨by decide, by decide⟩) okT5
  have k4 := y14 ok2E ok1E okT5
  have k5 := y14 ok4E ok1E okT5
  have k6 := y14 ok1E ok5E okT5
  have k7 : O214 20 [.agg [.int .i64 1, .int .i64 2, .int .i64 0, .int .i64 0, .int .i64 0, .int .i64 0, .int .i64 0, .nilS]] T5 (.str (bytesF mTwo)) T5 := y20 (m := mTwo) ⟨RowAt.nil, by decide, by simp [mTwo]⟩ ⟨by decide, by simp [mTwo]⟩ okT5
  rw [hrt] at k1
  rw [pR5] at k2
  rw [hs2] at k4
  rw [pl4] at k5
  rw [pS5] at k6
  have hI : ∀ s, ev s (.idxB 1) [.sl (isv [8, 9]) 2 .ro, .int .i64 1] = some (.elv (isv [8, 9]) 1, [], s) := fun s => rfl
  have hL : ∀ s, ev s (.load 1 false) [.elv (isv [8, 9]) 1] = some (.int .i64 9, [], s) := fun s => rfl
  simp (maxSteps := 2000000) (disch := first | omega | simp only [List.length_append, List.length_cons, List.length_nil, List.length_map] <;> omega) only [gT5, r1, hl8, ht8, List.set_cons_zero, List.set_cons_succ, apO_some, exc_agg, evK_some, appK_eq, srun_cons, stepK_call, get_mk, raw_slot, put_some, wb_nil, got_agg, pubs, pubsFrom, List.map_cons, List.map_nil, List.getD_cons_zero, List.getD_cons_succ, Bool.false_eq_true, ↓reduceIte, Nat.le_refl]
  refine callK_intro k1 ?_
  simp (maxSteps := 2000000) (disch := first | omega | simp only [List.length_append, List.length_cons, List.length_nil, List.length_map] <;> omega) only [gT5, gM5, r1, r2, hl8, ht8, l2, t2, ev_ldA, List.drop_zero, List.set_cons_zero, List.set_cons_succ, apO_some, exc_int, exc_agg, evK_some, appK_eq, appC_eq, grd_t, srun_cons, stepK_call, stepK_grd, sk_mv, sk_take, sk_pick, sk_bin, sk_load, get_mk, raw_slot, raw_lit, put_some, wb_nil, ev_mv, ev_take, ev_pick, bin_eql, ro_bool, ro_agg, got_int, got_agg, pubs, pubsFrom, List.map_cons, List.map_nil, List.getD_cons_zero, List.getD_cons_succ, Bool.false_eq_true, ↓reduceIte, Nat.zero_add, beq_self_eq_true, Nat.le_refl]
  refine callK_intro k4 ?_
  simp (maxSteps := 2000000) (disch := first | omega | simp only [List.length_append, List.length_cons, List.length_nil, List.length_map] <;> omega) only [gT5, gA5, r1, r4, hl8, ht8, l4, t4, ev_ldA, List.drop_zero, List.set_cons_zero, List.set_cons_succ, apO_some, exc_int, exc_agg, evK_some, appK_eq, appC_eq, grd_t, srun_cons, stepK_call, stepK_grd, sk_mv, sk_take, sk_pick, sk_bin, sk_load, get_mk, raw_slot, raw_lit, put_some, wb_nil, ev_mv, ev_take, ev_pick, bin_eql, ro_bool, ro_agg, got_int, got_agg, pubs, pubsFrom, List.map_cons, List.map_nil, List.getD_cons_zero, List.getD_cons_succ, Bool.false_eq_true, ↓reduceIte, Nat.zero_add, beq_self_eq_true, Nat.le_refl]
  refine callK_intro k5 ?_
  simp (maxSteps := 2000000) (disch := first | omega | simp only [List.length_append, List.length_cons, List.length_nil, List.length_map] <;> omega) only [hI, hL, gO5, r5, l5, t5, ev_ldA, List.drop_zero, List.set_cons_zero, List.set_cons_succ, pub_excl2, apO_some, exc_agg, exc_own, exc_excl, sk_idxB, evK_some, appK_eq, appC_eq, grd_t, srun_cons, stepK_call, stepK_grd, sk_mv, sk_take, sk_pick, sk_bin, sk_load, sk_lenL, get_mk, raw_slot, raw_lit, put_some, wb_nil, wb_cons, ev_mv, ev_take, ev_pick, ev_lenL, bin_eql, ro_bool, ro_agg, got_excl, got_own, got_agg, pubs, pubsFrom, List.map_cons, List.map_nil, List.getD_cons_zero, List.getD_cons_succ, List.getElem?_cons_zero, Bool.false_eq_true, ↓reduceIte, Nat.zero_add, beq_self_eq_true, Int.cast_ofNat_Int, Nat.le_refl]
  refine callK_intro k2 ?_
  simp (maxSteps := 2000000) (disch := first | omega | simp only [List.length_append, List.length_cons, List.length_nil, List.length_map] <;> omega) only [List.set_cons_zero, List.set_cons_succ, exc_agg, evK_some, appK_eq, appC_eq, grd_t, srun_cons, stepK_call, stepK_grd, sk_mv, sk_pick, sk_un, sk_bld, get_mk, raw_slot, raw_lit, put_some, wb_nil, ev_mv, ev_pick, ev_not, ev_bld, ro_bool, ro1_int, ro1_nilS, got_agg, pubs, pubsFrom, List.map_cons, List.map_nil, List.getD_cons_zero, List.getD_cons_succ, List.length_nil, Bool.false_eq_true, Option.map_some, ↓reduceIte, List.zip_nil_right, fillV, Bool.not_false]
  refine callK_intro k3 ?_
  simp (maxSteps := 2000000) (disch := first | omega | simp only [List.length_append, List.length_cons, List.length_nil, List.length_map] <;> omega) only [gT5, gO5, r1, r5, hl8, ht8, l5, t5, ev_ldA, List.drop_zero, List.set_cons_zero, List.set_cons_succ, apO_some, exc_agg, evK_some, appK_eq, appC_eq, grd_t, srun_cons, stepK_call, stepK_grd, sk_mv, sk_pick, sk_un, sk_load, get_mk, raw_slot, raw_lit, put_some, wb_nil, ev_mv, ev_pick, ev_not, ro_bool, ro_agg, got_agg, pubs, pubsFrom, List.map_cons, List.map_nil, List.getD_cons_zero, List.getD_cons_succ, Bool.false_eq_true, ↓reduceIte, Nat.zero_add, Bool.not_false, Nat.le_refl]
  refine callK_intro k6 ?_
  simp (maxSteps := 2000000) (disch := first | omega | simp only [List.length_append, List.length_cons, List.length_nil, List.length_map] <;> omega) only [cv_int, cell_int, List.set_cons_zero, List.set_cons_succ, exc_int, exc_agg, evK_some, appK_eq, appC_eq, grd_t, srun_cons, stepK_call, stepK_grd, sk_mv, sk_pick, sk_un, sk_bld, get_mk, raw_slot, raw_lit, put_some, wb_nil, ev_mv, ev_pick, ev_not, ev_bld, ro_bool, ro1_int, ro1_nilS, got_int, got_agg, pubs, pubsFrom, List.map_cons, List.map_nil, List.getD_cons_zero, List.getD_cons_succ, List.length_cons, List.length_nil, Nat.reduceAdd, Nat.reduceLeDiff, and_true, Bool.false_eq_true, Option.map_some, ↓reduceIte, List.all_cons, List.all_nil, Bool.and_self, List.zip_cons_cons, List.zip_nil_right, fillV, wrCells, Nat.zero_add, Bool.not_false]
  refine callK_intro k7 ?_
  obtain ⟨y, rfl⟩ := eT5
  simp (maxSteps := 2000000) (disch := first | omega | simp only [List.length_append, List.length_cons, List.length_nil, List.length_map] <;> omega) only [len2, List.set_cons_zero, List.set_cons_succ, flg_bool, swp_ret, seqK_n, evK_some, appK_eq, appC_eq, grd_t, srun_nil, srun_cons, stepK_grd, fin_ret, sk_give, sk_pick, sk_bin, sk_lenS, get_mk, raw_slot, raw_lit, put_some, wb_nil, ev_give, ev_pick, ev_lenS, bin_eql, ro_bool, List.map_cons, List.map_nil, List.getD_cons_zero, List.getD_cons_succ, true_and, Bool.false_eq_true, ↓reduceIte, beq_self_eq_true, Int.cast_ofNat_Int]
  first | exact ⟨_, trim1 ho rfl⟩ | exact ⟨_, trim1 ho rfl, rfl⟩ | exact ⟨_, trim1 ho rfl, rfl, rfl⟩ | exact ⟨_, trim1 ho rfl, by simp, rfl⟩ | exact ⟨_, trim1 ho rfl, by simp⟩
def O215 : Orc := O214.add 10 (StC fun st args r => okSt st ∧ args = [] ∧ r = .bool true)
theorem s215 : Sound Tryd.prog O215 := s214.addS c10 (by kernel_rfl) (by
  rintro args r st ⟨ho, rfl, rfl⟩
  exact ⟨by simp [sf10], g10s st ho⟩)
end Go.Sh.F
namespace Go.Sh.F
open Go.PathLaw Go.Proofs
theorem jn_le : ∀ (l : List (List UInt8)), (∀ x ∈ l, x.length ≤ 12) → (jn l).length + 1 ≤ 13 * l.length + 1
  | [], _ => by simp [jn]
  | [x], h => by
    have := h x List.mem_cons_self
    simp [jn]; omega
  | x :: y :: r, h => by
    have h1 := h x List.mem_cons_self
    have h2 := jn_le (y :: r) (fun z hz => h z (List.mem_cons_of_mem _ hz))
    rw [jn_cons (by simp)]
    simp only [List.length_append, List.length_cons] at h2 ⊢
    omega
theorem right_len {s : List UInt8} (h : rightB s = true) : s.length ≤ 52 := by
  unfold rightB at h
  rw [Bool.and_eq_true, decide_eq_true_eq, List.all_eq_true] at h
  have h1 := jn_le (spl s) (fun x hx => by
    have := h.2 x hx
    unfold nameB at this
    simp only [Bool.and_eq_true, decide_eq_true_eq] at this
    exact this.1.1.1.2)
  rw [jn_spl] at h1
  omega
theorem wth_iff {most n : Int} : wth most n = true ↔ 0 ≤ n ∧ n ≤ most := by unfold wth; simp
theorem rightP_facts {p : Pc} (h : rightP p = true) : p.path.length ≤ 52 ∧ (0 ≤ p.size ∧ p.size ≤ MX) ∧ (0 ≤ p.dig ∧ p.dig ≤ MX) ∧ (0 ≤ p.cl ∧ p.cl ≤ MX) ∧ (0 ≤ p.cr ∧ p.cr ≤ MX) ∧ p.ch.length ≤ 10 ∧ ∀ n ∈ p.ch, 0 ≤ n ∧ n ≤ MX := by
  unfold rightP clockB at h
  simp only [Bool.and_eq_true] at h
  obtain ⟨⟨⟨h1, h2, h3⟩, _⟩, h4⟩ := h
  rw [wth_iff] at h2 h3
  have hM : MX = 4294967295 := rfl
  have a1 := right_len h1
  by_cases hh : p.has = true
  · rw [if_pos hh] at h4
    simp only [Bool.and_eq_true, beq_iff_eq, wth_iff, List.all_eq_true] at h4
    obtain ⟨⟨⟨b1, b2⟩, b3⟩, b4⟩ := h4
    have hc : countF p.size ≤ 10 := by
      unfold countF
      split
      · omega
      · rw [Int.tdiv_eq_ediv_of_nonneg (by omega)]; omega
    exact ⟨a1, ⟨b1.1, by omega⟩, b3, ⟨h2.1, by omega⟩, ⟨h3.1, by omega⟩, by omega, fun n hn => b4 n hn⟩
  · rw [if_neg hh] at h4
    simp only [Bool.and_eq_true, beq_iff_eq] at h4
    obtain ⟨⟨b1, b2⟩, b3⟩ := h4
    have e : p.ch = [] := List.eq_nil_of_length_eq_zero (by omega)
    exact ⟨a1, ⟨by omega, by omega⟩, ⟨by omega, by omega⟩, ⟨h2.1, by omega⟩, ⟨h3.1, by omega⟩, by rw [e]; decide, by rw [e]; simp⟩
end Go.Sh.F
namespace Go.Sh.F
open Go.PathLaw Go.Proofs
def Wr (s t : W.RdS) (w : List UInt8) : Prop := t.p ≤ t.l.length ∧ t.l = s.l ∧ (t.e = 0 → s.e = 0 ∧ s.l.take t.p = s.l.take s.p ++ w)
theorem Wr.trans {s t u : W.RdS} {w x : List UInt8} (h : Wr s t w) (k : Wr t u x) : Wr s u (w ++ x) := by
  obtain ⟨h1, h2, h3⟩ := h
  obtain ⟨k1, k2, k3⟩ := k
  refine ⟨k1, k2.trans h2, fun he => ?_⟩
  obtain ⟨a, b⟩ := k3 he
  obtain ⟨c, d⟩ := h3 a
  refine ⟨c, ?_⟩
  rw [h2] at b
  rw [b, d, List.append_assoc]
end Go.Sh.F
namespace Go.Sh.F
open Go.PathLaw Go.Proofs
theorem z10 {st : List Ob} (ho : okSt st) : O215 10 [] st (.bool true) st := .inr ⟨rfl, rfl, ho, rfl, rfl⟩
theorem z20 {m : Mf} {st : List Ob} (h : m.ok st) (hf : fitB m) (ho : okSt st) : O215 20 [.agg m.cells] st (.str (bytesF m)) st := .inl (y20 h hf ho)
theorem z22 {x : List UInt8} {st : List Ob} (hx : x.length ≤ 268435456) (ho : okSt st) : O215 22 [.str x] st (.tup [.agg (rdM st x).cells, .int .i64 (rdC st x)]) (rdT st x) := .inl (y22 hx ho)
end Go.Sh.F
namespace Go.Sh.F
open Go.PathLaw Go.Proofs
end Go.Sh.F
namespace Go.Sh.F
open Go.PathLaw Go.Proofs
theorem z13 {a b : Mf} {st : List Ob} (ha : a.ok st) (hb : b.ok st) (ho : okSt st) : O215 13 [.agg a.cells, .agg b.cells] st (.bool (sameM a b)) st := (by repeat first | exact Or.inr ⟨rfl, rfl, a, b, ha, hb, ho, rfl, rfl⟩ | refine Or.inl ?_)
end Go.Sh.F
namespace Go.Sh.F
open Go.PathLaw Go.Proofs
def chR (f : Fl) (l : List Int) : SV := match l with | [] => .nilS | _ => .sl (isv l) l.length f
theorem chR_not (f : Fl) {l : List Int} (h : l ≠ []) : chR f l = .sl (isv l) l.length f := by
  cases l with
  | nil => exact absurd rfl h
  | cons a b => rfl
theorem chR_or (f : Fl) (l : List Int) : (l = [] ∧ chR f l = .nilS) ∨ (l ≠ [] ∧ chR f l = .sl (isv l) l.length f) := by
  by_cases h : l = []
  · subst h; exact .inl ⟨rfl, rfl⟩
  · exact .inr ⟨h, chR_not f h⟩
theorem row_chR (st : List Ob) (l : List Int) : RowI st (chR .ro l) l := by
  rcases chR_or .ro l with ⟨rfl, h⟩ | ⟨_, h⟩ <;> rw [h]
  · exact ⟨rfl, .inl ⟨rfl, rfl⟩⟩
  · exact RowI.mk (.inl rfl) rfl
theorem ro_chR (k : Nat) (l : List Int) : ro (chR (.own k) l) = chR .ro l := by cases l <;> rfl
theorem ro1_chR (k : Nat) (l : List Int) : ro1 (chR (.own k) l) = chR .ro l := by cases l <;> rfl
theorem ro1_chRr (l : List Int) : ro1 (chR .ro l) = chR .ro l := by cases l <;> rfl
theorem cell_chR (f : Fl) (l : List Int) : isCell (chR f l) = true := by cases l <;> rfl
theorem idOk_chR (f : Fl) (k : Nat) (l : List Int) : idOk k (chR f l) = true := by
  rcases chR_or f l with ⟨_, h⟩ | ⟨_, h⟩ <;> rw [h]
  · rfl
  · exact idOks_isv k l
def qT (s : W.RdS) : List UInt8 × W.RdS := W.textF s 100
def qA (s : W.RdS) : Int × W.RdS := W.numF (qT s).2 1
def qB (s : W.RdS) : List Int × W.RdS := numsF MX 4 (qA s).2
def qK (s : W.RdS) : Int × W.RdS := W.numF (qB s).2 10
def qC (s : W.RdS) : List Int × W.RdS := numsF MX (qK s).1.toNat (qK s).2
def qcF (s : W.RdS) : Pc := ⟨(qT s).1, (qA s).1 == 1, (qB s).1.getD 0 0, chR .ro (qC s).1, (qC s).1, (qB s).1.getD 1 0, (qB s).1.getD 2 0, (qB s).1.getD 3 0⟩
def qsF : Nat → W.RdS → List Pc × W.RdS
  | 0, s => ([], s)
  | k + 1, s => ((qsF k s).1 ++ [qcF (qsF k s).2], (qC (qsF k s).2).2)
theorem qsF_len : ∀ (k : Nat) (s : W.RdS), (qsF k s).1.length = k
  | 0, s => rfl
  | k + 1, s => by rw [qsF, List.length_append, qsF_len k s]; rfl
def qdP (x : List UInt8) : List Pc × W.RdS := qsF (rdN x).1.toNat (rdN x).2
def mfQ (x : List UInt8) : Mf := ⟨(hdS x).1.getD 0 0, (hdS x).1.getD 1 0, (hdS x).1.getD 2 0, (hdS x).1.getD 3 0, (hdS x).1.getD 4 0, (hdS x).1.getD 5 0, (hdS x).1.getD 6 0, pvS .ro (qdP x).1, (qdP x).1⟩
def okQ (x : List UInt8) : Bool := (W.endF (qdP x).2).e == 0 && rightM (mfQ x)
def rdQ (x : List UInt8) : Mf := if okQ x = true then mfQ x else Mf.none
def rdQc (x : List UInt8) : Int := if okQ x = true then 0 else 4
theorem rdOk_qC {v : SV} {s : W.RdS} (h : rdOk v s) : rdOk v (qC s).2 ∧ (qC s).2.l = s.l := by
  obtain ⟨a1, b1⟩ := rdOk_text h 100
  obtain ⟨a2, b2⟩ := rdOk_num a1 1
  obtain ⟨a3, b3, _⟩ := rdOk_nums (most := MX) 4 a2
  obtain ⟨a4, b4⟩ := rdOk_num a3 10
  obtain ⟨a5, b5, _⟩ := rdOk_nums (most := MX) (W.numF (numsF MX 4 (W.numF (W.textF s 100).2 1).2).2 10).1.toNat a4
  exact ⟨a5, by rw [show (qC s).2.l = (numsF MX (W.numF (numsF MX 4 (W.numF (W.textF s 100).2 1).2).2 10).1.toNat (W.numF (numsF MX 4 (W.numF (W.textF s 100).2 1).2).2 10).2).2.l from rfl, b5, b4, b3, b2, b1]⟩
theorem rdOk_qs {v : SV} : ∀ (k : Nat) {s : W.RdS}, rdOk v s → rdOk v (qsF k s).2 ∧ (qsF k s).2.l = s.l
  | 0, s, h => ⟨h, rfl⟩
  | k + 1, s, h => by
    obtain ⟨h1, h2⟩ := rdOk_qs k h
    obtain ⟨h3, h4⟩ := rdOk_qC h1
    exact ⟨h3, h4.trans h2⟩
theorem qC_len {v : SV} {s : W.RdS} (h : rdOk v s) : (qC s).1.length ≤ 10 := by
  obtain ⟨a1, b1⟩ := rdOk_text h 100
  obtain ⟨a2, b2⟩ := rdOk_num a1 1
  obtain ⟨a3, b3, _⟩ := rdOk_nums (most := MX) 4 a2
  obtain ⟨kn, hk1, hk2⟩ := numF_le (s := (qB s).2) (most := 10) (by decide) a3.2.2
  obtain ⟨a4, b4⟩ := rdOk_num a3 10
  obtain ⟨_, _, h9⟩ := rdOk_nums (most := MX) (qK s).1.toNat a4
  have e9 : (qC s).1.length = (qK s).1.toNat := h9
  rw [e9, show (qK s).1 = (kn : Int) from hk1, Int.toNat_natCast]
  omega
theorem qcF_ok {v : SV} {s : W.RdS} (h : rdOk v s) (hl : s.l.length ≤ 268435456) (st : List Ob) : (qcF s).ok st := by
  obtain ⟨x, p1, e1, ht, hq1, hq2⟩ := W.textF_spec s 100 h.2.2
  have := qC_len h
  refine ⟨row_chR st _, ?_, ?_⟩
  · show (qC s).1.length ≤ _; omega
  · show (W.textF s 100).1.length ≤ _; rw [ht]; show x.length ≤ _; omega
theorem qs_ok {v : SV} (st : List Ob) : ∀ (k : Nat) {s : W.RdS}, rdOk v s → s.l.length ≤ 268435456 → ∀ p ∈ (qsF k s).1, p.ok st
  | 0, s, h, hl, p, hp => by simp [qsF] at hp
  | k + 1, s, h, hl, p, hp => by
    obtain ⟨h1, h2⟩ := rdOk_qs k h
    rw [qsF, List.mem_append] at hp
    rcases hp with hp | hp
    · exact qs_ok st k h hl p hp
    · obtain rfl := List.mem_singleton.1 hp
      exact qcF_ok h1 (by rw [h2]; exact hl) st
theorem x46 {st : List Ob} {rid : Nat} {v : SV} {s : W.RdS} (h : rdOk v s) (hg : st[rid]? = some (.cells [v, .int .i64 s.p, .int .i64 s.e])) (most : Int) :
    O215 46 [.ptr rid 0, .int .i64 most] st (.int .i64 (W.numF s most).1) (setOb st rid [v, .int .i64 (W.numF s most).2.p, .int .i64 (W.numF s most).2.e]) :=
  (.inl (.inl (.inl (.inl (.inl (.inl (.inl (.inl (.inl (.inl (.inl (.inl (.inl (.inl (.inl ((.inr (by repeat first | exact Or.inr ⟨rfl, v, s.l, s.p, s.e, rid, most, h.1, h.2.1, h.2.2, hg, rfl, rfl, rfl⟩ | refine Or.inl ?_))))))))))))))))))
theorem x47 {st : List Ob} {rid : Nat} {v : SV} {s : W.RdS} (h : rdOk v s) (hg : st[rid]? = some (.cells [v, .int .i64 s.p, .int .i64 s.e])) (most : Int) :
    O215 47 [.ptr rid 0, .int .i64 most] st (.str (W.textF s most).1) (setOb st rid [v, .int .i64 (W.textF s most).2.p, .int .i64 (W.textF s most).2.e]) :=
  (.inl (.inl (.inl (.inl (.inl (.inl (.inl (.inl (.inl (.inl (.inl (.inl (.inl (.inl (.inl ((.inr (by repeat first | exact Or.inr ⟨rfl, v, s.l, s.p, s.e, rid, most, h.1, h.2.1, h.2.2, hg, rfl, rfl, rfl⟩ | refine Or.inl ?_))))))))))))))))))
theorem x48 {st : List Ob} {rid : Nat} {v : SV} {s : W.RdS} (h : rdOk v s) (hg : st[rid]? = some (.cells [v, .int .i64 s.p, .int .i64 s.e])) :
    O215 48 [.ptr rid 0] st (.int .i64 (W.endF s).e) (setOb st rid [v, .int .i64 (W.endF s).p, .int .i64 (W.endF s).e]) :=
  (.inl (.inl (.inl (.inl (.inl (.inl (.inl (.inl (.inl (.inl (.inl (.inl (.inl (.inl (.inl ((.inr (by repeat first | exact Or.inr ⟨rfl, v, s.l, s.p, s.e, rid, h.1, hg, rfl, rfl, rfl⟩ | refine Or.inl ?_))))))))))))))))))
theorem z19q {m : Mf} {st : List Ob} (h : m.ok st) (hf : m.fit) (ho : okSt st) : O215 19 [.agg m.cells] st (.bool (rightM m)) st := (by repeat first | exact Or.inr ⟨rfl, rfl, m, h, hf, ho, rfl, rfl⟩ | refine Or.inl ?_)
theorem fin_ltq {n i : Nat} (h : i < n) : ((n : Int) - ((i + 1 : Nat) : Int)).toNat < ((n : Int) - (i : Int)).toNat := by omega
set_option maxHeartbeats 32000000 in
set_option maxRecDepth 50000 in
theorem g23r (x : List UInt8) (st : List Ob) (hx : x.length ≤ 268435456) (ho : okSt st) : swpF O215 sf23 [.str x] st (fun r st' => r = .tup [.agg (rdQ x).cells, .int .i64 (rdQc x)] ∧ st' = st) := by
  obtain ⟨v, hve⟩ : ∃ v, SV.sl (W.bsv x) x.length .ro = v := ⟨_, rfl⟩
  have hv : W.rdv v x := hve ▸ rdv_s x
  have hs0 : rdOk v ⟨x, 0, 0⟩ := ⟨hv, by show x.length ≤ _; omega, Nat.zero_le _⟩
  have hl0 : (⟨x, 0, 0⟩ : W.RdS).l = x := rfl
  generalize hS0 : (⟨x, 0, 0⟩ : W.RdS) = s0 at hs0 hl0
  have e0p : s0.p = 0 := by rw [← hS0]
  have e0e : s0.e = 0 := by rw [← hS0]
  obtain ⟨h0, s1, e0⟩ : ∃ a b, W.numF s0 4294967295 = (a, b) := ⟨_, _, rfl⟩
  obtain ⟨hs1, hl1⟩ := rdOk_num hs0 4294967295
  have k0 := fun st rid hg => x46 (st := st) (rid := rid) hs0 hg 4294967295
  rw [e0] at hs1 hl1 k0
  simp only at hs1 hl1 k0
  obtain ⟨h1, s2, e1⟩ : ∃ a b, W.numF s1 4294967295 = (a, b) := ⟨_, _, rfl⟩
  obtain ⟨hs2, hl2⟩ := rdOk_num hs1 4294967295
  have k1 := fun st rid hg => x46 (st := st) (rid := rid) hs1 hg 4294967295
  rw [e1] at hs2 hl2 k1
  simp only at hs2 hl2 k1
  obtain ⟨h2, s3, e2⟩ : ∃ a b, W.numF s2 4294967295 = (a, b) := ⟨_, _, rfl⟩
  obtain ⟨hs3, hl3⟩ := rdOk_num hs2 4294967295
  have k2 := fun st rid hg => x46 (st := st) (rid := rid) hs2 hg 4294967295
  rw [e2] at hs3 hl3 k2
  simp only at hs3 hl3 k2
  obtain ⟨h3, s4, e3⟩ : ∃ a b, W.numF s3 4294967295 = (a, b) := ⟨_, _, rfl⟩
  obtain ⟨hs4, hl4⟩ := rdOk_num hs3 4294967295
  have k3 := fun st rid hg => x46 (st := st) (rid := rid) hs3 hg 4294967295
  rw [e3] at hs4 hl4 k3
  simp only at hs4 hl4 k3
  obtain ⟨h4, s5, e4⟩ : ∃ a b, W.numF s4 4294967295 = (a, b) := ⟨_, _, rfl⟩
  obtain ⟨hs5, hl5⟩ := rdOk_num hs4 4294967295
  have k4 := fun st rid hg => x46 (st := st) (rid := rid) hs4 hg 4294967295
  rw [e4] at hs5 hl5 k4
  simp only at hs5 hl5 k4
  obtain ⟨h5, s6, e5⟩ : ∃ a b, W.numF s5 4294967295 = (a, b) := ⟨_, _, rfl⟩
  obtain ⟨hs6, hl6⟩ := rdOk_num hs5 4294967295
  have k5 := fun st rid hg => x46 (st := st) (rid := rid) hs5 hg 4294967295
  rw [e5] at hs6 hl6 k5
  simp only at hs6 hl6 k5
  obtain ⟨h6, s7, e6⟩ : ∃ a b, W.numF s6 4294967295 = (a, b) := ⟨_, _, rfl⟩
  obtain ⟨hs7, hl7⟩ := rdOk_num hs6 4294967295
  have k6 := fun st rid hg => x46 (st := st) (rid := rid) hs6 hg 4294967295
  rw [e6] at hs7 hl7 k6
  simp only at hs7 hl7 k6
  obtain ⟨nn, hn1, hn2⟩ := numF_le (s := s7) (most := 32) (by decide) hs7.2.2
  obtain ⟨hs8, hl8⟩ := rdOk_num hs7 32
  obtain ⟨nz, s8, e7⟩ : ∃ nz s8, W.numF s7 32 = (nz, s8) := ⟨_, _, rfl⟩
  have k7 := fun st rid hg => x46 (st := st) (rid := rid) hs7 hg 32
  rw [e7] at hs8 hl8 hn1 k7
  simp only at hs8 hl8 hn1 k7
  subst hn1
  have hrH : hdS x = ([h0, h1, h2, h3, h4, h5, h6], s7) := by
    unfold hdS; rw [hS0]; simp only [numsF, e0, e1, e2, e3, e4, e5, e6]
  have hrN : rdN x = ((nn : Int), s8) := by unfold rdN; rw [hrH]; exact e7
  have hlx : s8.l.length ≤ 268435456 := by rw [hl8, hl7, hl6, hl5, hl4, hl3, hl2, hl1, hl0]; exact hx
  rw [e0p, e0e, show ((0 : Nat) : Int) = 0 from rfl] at k0
  have hs2b := fun s => ev_s2bW (st := s) (x := x) (by omega)
  have sI := st_aggA (st := st) (l := [.cells [.int .i64 0, .int .i64 0, .int .i64 0, .int .i64 0, .int .i64 0, .int .i64 0, .int .i64 0, .nilS], .cells [v, .int .i64 s1.p, .int .i64 s1.e], .cells [.int .i64 0, .int .i64 0, .int .i64 0, .int .i64 0, .int .i64 0, .int .i64 0, .int .i64 0, .nilS]]) (i := 2) (n := 8) (b := true) (xs := [.int .i64 h0, .int .i64 0, .int .i64 0, .int .i64 0, .int .i64 0, .int .i64 0, .int .i64 0, .nilS]) rfl rfl rfl rfl rfl
  have hcv : isCell v = true := by rw [← hve]; rfl
  have hrv : ro1 v = v := by rw [← hve]; rfl
  simp (maxSteps := 2000000) (disch := first | omega | simp only [List.length_append, List.length_cons, List.length_nil, List.length_map] <;> omega) only [sf23, hs2b, cv_sl, List.set_cons_zero, List.set_cons_succ, pub_excl2, flg_int, exc_excl, swp_seq, swp_reg, seqK_n, evK_some, appK_eq, srun_nil, srun_cons, swpF_eq, sk_mv, sk_give, sk_s2b, sk_bld, sk_alloc, get_mk, raw_slot, raw_lit, put_some, wb_nil, ev_mv, ev_give, ev_bld, ev_alloc, ro_int, ro_str, got_excl, pubs, pubsFrom, List.map_cons, List.map_nil, List.getD_cons_zero, List.getD_cons_succ, List.length_cons, List.length_nil, List.replicate_succ, List.replicate_zero, List.cons_append, List.nil_append, Nat.reduceAdd, Nat.reduceSub, Nat.reduceLeDiff, true_and, Bool.false_eq_true, ↓reduceIte, List.all_cons, List.all_nil, Bool.and_true, List.zip_cons_cons, List.zip_nil_right, fillV, wrCells, Nat.zero_add]
  rw [hve]
  simp (maxSteps := 2000000) (disch := first | omega | simp only [List.length_append, List.length_cons, List.length_nil, List.length_map] <;> omega) only [hcv, hrv, cv_agg, cell_int, List.append_assoc, List.set_cons_zero, List.set_cons_succ, flg_ptr, exc_int, exc_ptr, exc_agg, swp_seq, swp_reg, seqK_n, evK_some, appK_eq, srun_nil, srun_cons, stepK_call, sk_mv, sk_take, sk_give, sk_box, get_mk, raw_slot, raw_lit, put_some, wb_nil, wb_cons, ev_mv, ev_take, ev_give, ev_box, ro_int, ro_ptr, ro1_int, got_int, got_ptr, got_agg, pubs, pubsFrom, List.map_cons, List.map_nil, List.getD_cons_zero, List.getD_cons_succ, List.getElem?_cons_zero, List.length_cons, List.length_nil, List.cons_append, List.nil_append, Bool.false_eq_true, Option.map_some, ↓reduceIte, List.all_cons, List.all_nil, Bool.and_self, Nat.zero_add, List.length_append]
  refine callK_intro (k0 _ _ (by rw [getA]; rfl)) ?_
  simp (maxSteps := 2000000) (disch := first | omega | simp only [List.length_append, List.length_cons, List.length_nil, List.length_map] <;> omega) only [sI, cv_int, cell_int, setA, List.append_assoc, List.set_cons_zero, List.set_cons_succ, exc_int, exc_ptr, swp_seq, swp_reg, seqK_n, evK_some, appK_eq, appC_eq, srun_nil, srun_cons, stepK_call, sk_mv, sk_store, sk_bld, sk_alloc, get_mk, raw_slot, put_some, put_none, wb_nil, ev_mv, ev_bld, ev_alloc, ro_int, ro_ptr, got_int, got_ptr, pubs, pubsFrom, List.map_cons, List.map_nil, List.getD_cons_zero, List.getD_cons_succ, List.length_cons, List.length_nil, List.cons_append, List.nil_append, Nat.reduceAdd, Nat.reduceLeDiff, and_true, Bool.false_eq_true, Option.map_some, ↓reduceIte, List.all_cons, List.all_nil, Bool.and_self, List.zip_cons_cons, List.zip_nil_right, fillV, wrCells, Nat.zero_add, List.length_append]
  refine callK_intro (k1 _ _ (by rw [getA]; rfl)) ?_
  simp (maxSteps := 2000000) (disch := first | omega | simp only [List.length_append, List.length_cons, List.length_nil, List.length_map] <;> omega) only [getA, setA, List.set_cons_zero, List.set_cons_succ, exc_int, exc_ptr, swp_seq, swp_reg, seqK_n, evK_some, appK_eq, appC_eq, srun_nil, srun_cons, stepK_call, sk_mv, sk_fld, sk_store, get_mk, raw_slot, put_some, put_none, wb_nil, ev_mv, ev_fld, stP_some, ro_int, ro_ptr, got_int, got_ptr, pubs, pubsFrom, List.map_cons, List.map_nil, List.getD_cons_zero, List.getD_cons_succ, List.getElem?_cons_zero, List.getElem?_cons_succ, List.length_cons, List.length_nil, Nat.reduceAdd, Nat.reduceLT, Bool.false_eq_true, ↓reduceIte, Nat.zero_add, st_int]
  refine callK_intro (k2 _ _ (by rw [getA]; rfl)) ?_
  simp (maxSteps := 2000000) (disch := first | omega | simp only [List.length_append, List.length_cons, List.length_nil, List.length_map] <;> omega) only [getA, setA, List.set_cons_zero, List.set_cons_succ, exc_int, exc_ptr, swp_seq, swp_reg, seqK_n, evK_some, appK_eq, appC_eq, srun_nil, srun_cons, stepK_call, sk_mv, sk_fld, sk_store, get_mk, raw_slot, put_some, put_none, wb_nil, ev_mv, ev_fld, stP_some, ro_int, ro_ptr, got_int, got_ptr, pubs, pubsFrom, List.map_cons, List.map_nil, List.getD_cons_zero, List.getD_cons_succ, List.getElem?_cons_zero, List.getElem?_cons_succ, List.length_cons, List.length_nil, Nat.reduceAdd, Nat.reduceLT, Bool.false_eq_true, ↓reduceIte, Nat.zero_add, st_int]
  refine callK_intro (k3 _ _ (by rw [getA]; rfl)) ?_
  simp (maxSteps := 2000000) (disch := first | omega | simp only [List.length_append, List.length_cons, List.length_nil, List.length_map] <;> omega) only [getA, setA, List.set_cons_zero, List.set_cons_succ, exc_int, exc_ptr, swp_seq, swp_reg, seqK_n, evK_some, appK_eq, appC_eq, srun_nil, srun_cons, stepK_call, sk_mv, sk_fld, sk_store, get_mk, raw_slot, put_some, put_none, wb_nil, ev_mv, ev_fld, stP_some, ro_int, ro_ptr, got_int, got_ptr, pubs, pubsFrom, List.map_cons, List.map_nil, List.getD_cons_zero, List.getD_cons_succ, List.getElem?_cons_zero, List.getElem?_cons_succ, List.length_cons, List.length_nil, Nat.reduceAdd, Nat.reduceLT, Bool.false_eq_true, ↓reduceIte, Nat.zero_add, st_int]
  refine callK_intro (k4 _ _ (by rw [getA]; rfl)) ?_
  simp (maxSteps := 2000000) (disch := first | omega | simp only [List.length_append, List.length_cons, List.length_nil, List.length_map] <;> omega) only [getA, setA, List.set_cons_zero, List.set_cons_succ, exc_int, exc_ptr, swp_seq, swp_reg, seqK_n, evK_some, appK_eq, appC_eq, srun_nil, srun_cons, stepK_call, sk_mv, sk_fld, sk_store, get_mk, raw_slot, put_some, put_none, wb_nil, ev_mv, ev_fld, stP_some, ro_int, ro_ptr, got_int, got_ptr, pubs, pubsFrom, List.map_cons, List.map_nil, List.getD_cons_zero, List.getD_cons_succ, List.getElem?_cons_zero, List.getElem?_cons_succ, List.length_cons, List.length_nil, Nat.reduceAdd, Nat.reduceLT, Bool.false_eq_true, ↓reduceIte, Nat.zero_add, st_int]
  refine callK_intro (k5 _ _ (by rw [getA]; rfl)) ?_
  simp (maxSteps := 2000000) (disch := first | omega | simp only [List.length_append, List.length_cons, List.length_nil, List.length_map] <;> omega) only [getA, setA, List.set_cons_zero, List.set_cons_succ, exc_int, exc_ptr, swp_seq, swp_reg, seqK_n, evK_some, appK_eq, appC_eq, srun_nil, srun_cons, stepK_call, sk_mv, sk_fld, sk_store, get_mk, raw_slot, put_some, put_none, wb_nil, ev_mv, ev_fld, stP_some, ro_int, ro_ptr, got_int, got_ptr, pubs, pubsFrom, List.map_cons, List.map_nil, List.getD_cons_zero, List.getD_cons_succ, List.getElem?_cons_zero, List.getElem?_cons_succ, List.length_cons, List.length_nil, Nat.reduceAdd, Nat.reduceLT, Bool.false_eq_true, ↓reduceIte, Nat.zero_add, st_int]
  refine callK_intro (k6 _ _ (by rw [getA]; rfl)) ?_
  simp (maxSteps := 2000000) (disch := first | omega | simp only [List.length_append, List.length_cons, List.length_nil, List.length_map] <;> omega) only [getA, setA, List.set_cons_zero, List.set_cons_succ, exc_int, exc_ptr, swp_seq, swp_reg, seqK_n, evK_some, appK_eq, appC_eq, srun_nil, srun_cons, stepK_call, sk_mv, sk_fld, sk_store, get_mk, raw_slot, raw_lit, put_some, put_none, wb_nil, ev_mv, ev_fld, stP_some, ro_ptr, got_int, got_ptr, pubs, pubsFrom, List.map_cons, List.map_nil, List.getD_cons_zero, List.getD_cons_succ, List.getElem?_cons_zero, List.getElem?_cons_succ, List.length_cons, List.length_nil, Nat.reduceAdd, Nat.reduceLT, Bool.false_eq_true, ↓reduceIte, Nat.zero_add, st_int]
  refine callK_intro (k7 _ _ (by rw [getA]; rfl)) ?_
  simp (maxSteps := 2000000) (disch := first | omega | simp only [List.length_append, List.length_cons, List.length_nil, List.length_map] <;> omega) only [setA, List.set_cons_zero, List.set_cons_succ, flg_int, exc_int, swp_seq, swp_reg, swp_block, seqK_n, evK_some, appK_eq, appC_eq, srun_nil, srun_cons, sk_take, sk_give, get_mk, raw_slot, raw_lit, put_some, wb_nil, ev_take, ev_give, ro_int, got_int, List.map_cons, List.map_nil, List.getD_cons_zero, List.getD_cons_succ, Bool.false_eq_true, ↓reduceIte]
  refine swp_lp (fun S => ∃ (i : Nat), i ≤ nn ∧ S = ⟨[.undef, .undef, .ptr st.length 0, .int .i64 0, .ptr (st.length + 1) 0, .int .i64 4294967295, .ptr (st.length + 2) 0, .int .i64 nn, .int .i64 i] ++ List.replicate 98 .undef, st ++ [.cells [.int .i64 0, .int .i64 0, .int .i64 0, .int .i64 0, .int .i64 0, .int .i64 0, .int .i64 0, .nilS], .cells [v, .int .i64 (qsF i s8).2.p, .int .i64 (qsF i s8).2.e], .cells [.int .i64 h0, .int .i64 h1, .int .i64 h2, .int .i64 h3, .int .i64 h4, .int .i64 h5, .int .i64 h6, pvS (.own 7) (qsF i s8).1]]⟩) (fun S => match S.get 8 with | .int _ k => ((nn : Int) - k).toNat | _ => 0) ⟨[.undef, .undef, .ptr st.length 0, .int .i64 0, .ptr (st.length + 1) 0, .int .i64 4294967295, .ptr (st.length + 2) 0, .int .i64 nn, .int .i64 (0 : Nat)] ++ List.replicate 98 .undef, st ++ [.cells [.int .i64 0, .int .i64 0, .int .i64 0, .int .i64 0, .int .i64 0, .int .i64 0, .int .i64 0, .nilS], .cells [v, .int .i64 (qsF 0 s8).2.p, .int .i64 (qsF 0 s8).2.e], .cells [.int .i64 h0, .int .i64 h1, .int .i64 h2, .int .i64 h3, .int .i64 h4, .int .i64 h5, .int .i64 h6, pvS (.own 7) (qsF 0 s8).1]]⟩ ?_ ⟨0, Nat.zero_le _, rfl⟩ ?_
  · refine Forget.of ?_
    repeat first | exact fg_e | refine fg_d ?_ | refine fg_k rfl ?_
  rintro S ⟨i, hi, rfl⟩
  obtain ⟨hsi, hli⟩ := rdOk_qs i hs8
  have hLl := qsF_len i s8
  have hLo := fun T => qs_ok T i hs8 hlx
  have hnext : qsF (i + 1) s8 = ((qsF i s8).1 ++ [qcF (qsF i s8).2], (qC (qsF i s8).2).2) := rfl
  obtain ⟨L, si, eL⟩ : ∃ L si, qsF i s8 = (L, si) := ⟨_, _, rfl⟩
  rw [eL] at hsi hli hLl hLo hnext ⊢
  simp only at hsi hli hLl hLo hnext ⊢
  have qP := ro1_pvS 7 L
  have qR := ro1_pvR L
  have qC1 := cell_pvS .ro L
  have hids : ∀ (k : Nat), ∀ p ∈ L, idOk k p.cv = true := by
    have : ∀ (j : Nat) (s : W.RdS) (k : Nat), ∀ p ∈ (qsF j s).1, idOk k p.cv = true := by
      intro j
      induction j with
      | zero => intro s k p hp; simp [qsF] at hp
      | succ j ih =>
        intro s k p hp
        rw [qsF, List.mem_append] at hp
        rcases hp with hp | hp
        · exact ih s k p hp
        · obtain rfl := List.mem_singleton.1 hp
          exact idOk_chR _ _ _
    intro k p hp
    exact this i s8 k p (by rw [eL]; exact hp)
  have hidp : ∀ (f : Fl) (k : Nat), idOk k (pvS f L) = true := fun f k => idOk_pvS (hids k)
  have hvid : ∀ k : Nat, idOk k v = true := fun k => by rw [← hve]; exact idOks_bsvW x
  by_cases him : i = nn
  · have hd : decide ((i : Int) < (nn : Int)) = false := by rw [decide_eq_false_iff_not]; omega
    subst him
    have hrP : qdP x = (L, si) := by unfold qdP; rw [hrN]; exact eL
    have hmf : mfQ x = ⟨h0, h1, h2, h3, h4, h5, h6, pvS .ro L, L⟩ := by unfold mfQ; rw [hrH, hrP]; rfl
    simp (maxSteps := 2000000) (disch := first | omega | simp only [List.length_append, List.length_cons, List.length_nil, List.length_map] <;> omega) only [hd, List.set_cons_zero, List.set_cons_succ, lpK_e, exc_ptr, swp_seq, swp_reg, swp_exit, swp_cond, seqK_n, seqK_e, blkK_e, condK_f, evK_some, appK_eq, srun_nil, srun_cons, stepK_call, sk_mv, sk_bin, get_mk, raw_slot, put_some, wb_nil, ev_mv, bin_lss, ro_int, ro_ptr, got_ptr, pubs, pubsFrom, List.map_cons, List.map_nil, List.getD_cons_zero, List.getD_cons_succ, List.length_cons, List.length_nil, List.replicate_succ, List.replicate_zero, List.cons_append, List.nil_append, Nat.reduceAdd, Bool.false_eq_true, ↓reduceIte, Nat.zero_add, List.length_append]
    refine callK_intro (x48 hsi (by rw [getA]; rfl)) ?_
    by_cases hE : (W.endF si).e = 0
    · have hne : ((W.endF si).e != 0) = false := by rw [hE]; rfl
      have hso : okSt (st ++ [.cells [.int .i64 0, .int .i64 0, .int .i64 0, .int .i64 0, .int .i64 0, .int .i64 0, .int .i64 0, .nilS], .cells [v, .int .i64 (W.endF si).p, .int .i64 (W.endF si).e], .cells [.int .i64 h0, .int .i64 h1, .int .i64 h2, .int .i64 h3, .int .i64 h4, .int .i64 h5, .int .i64 h6, pvS (.own 7) L]]) := by
        refine okSt_appL ho ?_
        simp only [List.all_cons, List.all_nil, Bool.and_true, obOk, idOks, idOk, hidp, hvid]
      have hmo : (⟨h0, h1, h2, h3, h4, h5, h6, pvS .ro L, L⟩ : Mf).ok (st ++ [.cells [.int .i64 0, .int .i64 0, .int .i64 0, .int .i64 0, .int .i64 0, .int .i64 0, .int .i64 0, .nilS], .cells [v, .int .i64 (W.endF si).p, .int .i64 (W.endF si).e], .cells [.int .i64 h0, .int .i64 h1, .int .i64 h2, .int .i64 h3, .int .i64 h4, .int .i64 h5, .int .i64 h6, pvS (.own 7) L]]) := ⟨row_pvS _ L, by show L.length ≤ _; omega, hLo _⟩
      have hmfit : (⟨h0, h1, h2, h3, h4, h5, h6, pvS .ro L, L⟩ : Mf).fit := by
        obtain ⟨n1, g1, g2⟩ := numF_le (s := s1) (most := 4294967295) (by decide) hs1.2.2
        rw [e1] at g1
        simp only at g1
        unfold Mf.fit; exact ⟨by show _ ≤ h1; omega, by show h1 ≤ _; omega⟩
      have k19 := z19q hmo hmfit hso
      simp only [Mf.cells] at k19
      simp (maxSteps := 2000000) (disch := first | omega | simp only [List.length_append, List.length_cons, List.length_nil, List.length_map] <;> omega) only [hne, qP, qR, getA, setA, ev_ldA, List.drop_zero, List.take_succ_cons, List.take_zero, List.set_cons_zero, List.set_cons_succ, apO_some, exc_agg, evK_some, appK_eq, appC_eq, grd_t, srun_cons, stepK_call, stepK_grd, sk_mv, sk_bin, sk_load, get_mk, raw_slot, raw_lit, put_some, wb_nil, ev_mv, bin_neq, ro_bool, ro_agg, ro1_int, got_agg, pubs, pubsFrom, List.map_cons, List.map_nil, List.getD_cons_zero, List.getD_cons_succ, List.getElem?_cons_zero, List.getElem?_cons_succ, List.length_cons, List.length_nil, Nat.reduceAdd, Bool.false_eq_true, ↓reduceIte, Nat.zero_add, Nat.le_refl]
      refine callK_intro k19 ?_
      cases hR : rightM ⟨h0, h1, h2, h3, h4, h5, h6, pvS .ro L, L⟩ with
      | true =>
      have hb : okQ x = true := by unfold okQ; rw [hmf, hrP, hR]; simp [hE]
      have e1 : rdQ x = ⟨h0, h1, h2, h3, h4, h5, h6, pvS .ro L, L⟩ := by unfold rdQ; rw [hb, hmf]; rfl
      have e2 : rdQc x = 0 := by unfold rdQc; rw [hb]; rfl
      have sM := st_aggA (st := st) (l := [.cells [.int .i64 0, .int .i64 0, .int .i64 0, .int .i64 0, .int .i64 0, .int .i64 0, .int .i64 0, .nilS], .cells [v, .int .i64 (W.endF si).p, .int .i64 (W.endF si).e], .cells [.int .i64 h0, .int .i64 h1, .int .i64 h2, .int .i64 h3, .int .i64 h4, .int .i64 h5, .int .i64 h6, pvS (.own 7) L]]) (i := 0) (n := 8) (b := true) (xs := [.int .i64 h0, .int .i64 h1, .int .i64 h2, .int .i64 h3, .int .i64 h4, .int .i64 h5, .int .i64 h6, pvS .ro L]) rfl (by simp only [List.map_cons, List.map_nil, qR]; rfl) (by simp only [List.all_cons, List.all_nil, qC1]; rfl) rfl rfl
      rw [Nat.add_zero] at sM
      simp only [e1, e2, Mf.cells]
      simp (maxSteps := 2000000) (disch := first | omega | simp only [List.length_append, List.length_cons, List.length_nil, List.length_map] <;> omega) only [qP, sM, getA, ev_ldA, List.drop_zero, List.take_succ_cons, List.take_zero, List.set_cons_zero, List.set_cons_succ, apO_some, flg_int, swp_seq, swp_reg, swp_skip, swp_ret, swp_cond, seqK_n, condK_f, evK_some, appK_eq, appC_eq, grd_t, srun_nil, srun_cons, stepK_grd, sk_give, sk_pick, sk_un, sk_load, sk_store, get_mk, raw_slot, raw_lit, put_some, put_none, wb_nil, ev_give, ev_pick, ev_not, ro_int, ro_bool, ro_agg, ro1_int, List.map_cons, List.map_nil, List.getD_cons_zero, List.getD_cons_succ, List.getElem?_cons_zero, List.getElem?_cons_succ, List.length_cons, List.length_nil, Nat.reduceAdd, Bool.false_eq_true, ↓reduceIte, Nat.zero_add, Bool.not_true, Nat.le_refl]
      exact ⟨_, _, retOf_c2 (n := 8) (id := st.length) (t := 3) (l := [.int .i64 h0, .int .i64 h1, .int .i64 h2, .int .i64 h3, .int .i64 h4, .int .i64 h5, .int .i64 h6, pvS .ro L]) (r := .agg [.int .i64 h0, .int .i64 h1, .int .i64 h2, .int .i64 h3, .int .i64 h4, .int .i64 h5, .int .i64 h6, pvS .ro L]) rfl (by rw [getA0]; rfl) rfl (by show SV.agg (List.map ro1 _) = _; simp only [List.map_cons, List.map_nil, qR]; rfl), trim1 ho (by show idOks st.length [.tup [.agg [.int .i64 h0, .int .i64 h1, .int .i64 h2, .int .i64 h3, .int .i64 h4, .int .i64 h5, .int .i64 h6, pvS .ro L], .int .i64 0]] = true; simp only [idOks, idOk, Bool.and_true, hidp]), rfl, rfl⟩
      | false =>
      have hb : okQ x = false := by unfold okQ; rw [hmf, hrP, hR, Bool.and_false]
      have e1 : rdQ x = Mf.none := by unfold rdQ; rw [hb]; rfl
      have e2 : rdQc x = 4 := by unfold rdQc; rw [hb]; rfl
      simp only [e1, e2]
      have sZ := st_aggA (st := st) (l := [.cells [.int .i64 0, .int .i64 0, .int .i64 0, .int .i64 0, .int .i64 0, .int .i64 0, .int .i64 0, .nilS], .cells [v, .int .i64 (W.endF si).p, .int .i64 (W.endF si).e], .cells [.int .i64 h0, .int .i64 h1, .int .i64 h2, .int .i64 h3, .int .i64 h4, .int .i64 h5, .int .i64 h6, pvS (.own 7) L]]) (i := 0) (n := 8) (b := true) (xs := [.int .i64 0, .int .i64 0, .int .i64 0, .int .i64 0, .int .i64 0, .int .i64 0, .int .i64 0, .nilS]) rfl rfl rfl rfl rfl
      rw [Nat.add_zero] at sZ
      simp (maxSteps := 2000000) (disch := first | omega | simp only [List.length_append, List.length_cons, List.length_nil, List.length_map] <;> omega) only [sZ, List.set_cons_zero, List.set_cons_succ, flg_int, swp_seq, swp_reg, swp_ret, swp_cond, seqK_n, seqK_r, condK_t, evK_some, appK_eq, appC_eq, grd_t, srun_nil, srun_cons, stepK_grd, sk_give, sk_pick, sk_un, sk_store, sk_bld, get_mk, raw_slot, raw_lit, put_some, put_none, wb_nil, ev_give, ev_pick, ev_not, ev_bld, ro_int, ro_bool, pubs, pubsFrom, List.map_cons, List.map_nil, List.getD_cons_zero, List.getD_cons_succ, List.length_nil, Bool.false_eq_true, Option.map_some, ↓reduceIte, List.zip_nil_right, fillV, Bool.not_false]
      refine ⟨_, _, retOf_c2 (n := 8) (id := st.length) (t := 3) (l := [.int .i64 0, .int .i64 0, .int .i64 0, .int .i64 0, .int .i64 0, .int .i64 0, .int .i64 0, .nilS]) (r := .agg [.int .i64 0, .int .i64 0, .int .i64 0, .int .i64 0, .int .i64 0, .int .i64 0, .int .i64 0, .nilS]) rfl (by rw [getA0]; rfl) rfl rfl, trim1 ho rfl, rfl, rfl⟩
    · have hne : ((W.endF si).e != 0) = true := by simp [hE]
      have hb : okQ x = false := by unfold okQ; rw [hrP]; simp [hE]
      have e1 : rdQ x = Mf.none := by unfold rdQ; rw [hb]; rfl
      have e2 : rdQc x = 4 := by unfold rdQc; rw [hb]; rfl
      simp only [e1, e2]
      have sZ := st_aggA (st := st) (l := [.cells [.int .i64 0, .int .i64 0, .int .i64 0, .int .i64 0, .int .i64 0, .int .i64 0, .int .i64 0, .nilS], .cells [v, .int .i64 (W.endF si).p, .int .i64 (W.endF si).e], .cells [.int .i64 h0, .int .i64 h1, .int .i64 h2, .int .i64 h3, .int .i64 h4, .int .i64 h5, .int .i64 h6, pvS (.own 7) L]]) (i := 0) (n := 8) (b := true) (xs := [.int .i64 0, .int .i64 0, .int .i64 0, .int .i64 0, .int .i64 0, .int .i64 0, .int .i64 0, .nilS]) rfl rfl rfl rfl rfl
      rw [Nat.add_zero] at sZ
      simp (maxSteps := 2000000) (disch := first | omega | simp only [List.length_append, List.length_cons, List.length_nil, List.length_map] <;> omega) only [hne, sZ, setA, List.set_cons_zero, List.set_cons_succ, flg_int, swp_seq, swp_reg, swp_ret, swp_cond, seqK_n, seqK_r, condK_t, evK_some, appK_eq, appC_eq, grd_t, srun_nil, srun_cons, stepK_grd, sk_mv, sk_give, sk_pick, sk_bin, sk_store, sk_bld, get_mk, raw_slot, raw_lit, put_some, put_none, wb_nil, ev_mv, ev_give, ev_pick, bin_neq, ev_bld, ro_int, ro_bool, pubs, pubsFrom, List.map_cons, List.map_nil, List.getD_cons_zero, List.getD_cons_succ, List.length_nil, Bool.false_eq_true, Option.map_some, ↓reduceIte, List.zip_nil_right, fillV, reduceCtorEq]
      refine ⟨_, _, retOf_c2 (n := 8) (id := st.length) (t := 3) (l := [.int .i64 0, .int .i64 0, .int .i64 0, .int .i64 0, .int .i64 0, .int .i64 0, .int .i64 0, .nilS]) (r := .agg [.int .i64 0, .int .i64 0, .int .i64 0, .int .i64 0, .int .i64 0, .int .i64 0, .int .i64 0, .nilS]) rfl (by rw [getA0]; rfl) rfl rfl, trim1 ho rfl, rfl, rfl⟩
  have hd : decide ((i : Int) < (nn : Int)) = true := by rw [decide_eq_true_eq]; omega
  have fin : ((nn : Int) - ((i + 1 : Nat) : Int)).toNat < ((nn : Int) - (i : Int)).toNat := by omega
  obtain ⟨t, u1, f0⟩ : ∃ a b, W.textF si 100 = (a, b) := ⟨_, _, rfl⟩
  obtain ⟨hu1, hv1⟩ := rdOk_text hsi 100
  have y0 := fun st rid hg => x47 (st := st) (rid := rid) hsi hg 100
  rw [f0] at hu1 hv1 y0
  simp only at hu1 hv1 y0
  obtain ⟨a, u2, f1⟩ : ∃ a b, W.numF u1 1 = (a, b) := ⟨_, _, rfl⟩
  obtain ⟨hu2, hv2⟩ := rdOk_num hu1 1
  have y1 := fun st rid hg => x46 (st := st) (rid := rid) hu1 hg 1
  rw [f1] at hu2 hv2 y1
  simp only at hu2 hv2 y1
  obtain ⟨b0, u3, f2⟩ : ∃ a b, W.numF u2 4294967295 = (a, b) := ⟨_, _, rfl⟩
  obtain ⟨hu3, hv3⟩ := rdOk_num hu2 4294967295
  have y2 := fun st rid hg => x46 (st := st) (rid := rid) hu2 hg 4294967295
  rw [f2] at hu3 hv3 y2
  simp only at hu3 hv3 y2
  obtain ⟨b1, u4, f3⟩ : ∃ a b, W.numF u3 4294967295 = (a, b) := ⟨_, _, rfl⟩
  obtain ⟨hu4, hv4⟩ := rdOk_num hu3 4294967295
  have y3 := fun st rid hg => x46 (st := st) (rid := rid) hu3 hg 4294967295
  rw [f3] at hu4 hv4 y3
  simp only at hu4 hv4 y3
  obtain ⟨b2, u5, f4⟩ : ∃ a b, W.numF u4 4294967295 = (a, b) := ⟨_, _, rfl⟩
  obtain ⟨hu5, hv5⟩ := rdOk_num hu4 4294967295
  have y4 := fun st rid hg => x46 (st := st) (rid := rid) hu4 hg 4294967295
  rw [f4] at hu5 hv5 y4
  simp only at hu5 hv5 y4
  obtain ⟨b3, u6, f5⟩ : ∃ a b, W.numF u5 4294967295 = (a, b) := ⟨_, _, rfl⟩
  obtain ⟨hu6, hv6⟩ := rdOk_num hu5 4294967295
  have y5 := fun st rid hg => x46 (st := st) (rid := rid) hu5 hg 4294967295
  rw [f5] at hu6 hv6 y5
  simp only at hu6 hv6 y5
  obtain ⟨kz, u7, f6⟩ : ∃ a b, W.numF u6 10 = (a, b) := ⟨_, _, rfl⟩
  obtain ⟨hu7, hv7⟩ := rdOk_num hu6 10
  have y6 := fun st rid hg => x46 (st := st) (rid := rid) hu6 hg 10
  rw [f6] at hu7 hv7 y6
  simp only at hu7 hv7 y6
  obtain ⟨kk, hk1, hk2⟩ := numF_le (s := u6) (most := 10) (by decide) hu6.2.2
  rw [f6] at hk1
  simp only at hk1
  subst hk1
  have hqT : qT si = (t, u1) := f0
  have hqA : qA si = (a, u2) := by unfold qA; rw [hqT]; exact f1
  have hqB : qB si = ([b0, b1, b2, b3], u6) := by unfold qB; rw [hqA]; simp only [numsF, f2, f3, f4, f5]
  have hqK : qK si = ((kk : Int), u7) := by unfold qK; rw [hqB]; exact f6
  have hqC : qC si = numsF 4294967295 kk u7 := by unfold qC; rw [hqK]; rfl
  have hqc : qcF si = ⟨t, a == 1, b0, chR .ro (qC si).1, (qC si).1, b1, b2, b3⟩ := by unfold qcF; rw [hqT, hqA, hqB]; rfl
  have sP := st_aggA (st := st) (l := [.cells [.int .i64 0, .int .i64 0, .int .i64 0, .int .i64 0, .int .i64 0, .int .i64 0, .int .i64 0, .nilS], .cells [v, .int .i64 u1.p, .int .i64 u1.e], .cells [.int .i64 h0, .int .i64 h1, .int .i64 h2, .int .i64 h3, .int .i64 h4, .int .i64 h5, .int .i64 h6, pvS (.own 7) L], .cells [.str [], .bool false, .int .i64 0, .nilS, .int .i64 0, .int .i64 0, .int .i64 0]]) (i := 3) (n := 7) (b := true) (xs := [.str t, .bool false, .int .i64 0, .nilS, .int .i64 0, .int .i64 0, .int .i64 0]) rfl rfl rfl rfl rfl
  simp (maxSteps := 2000000) (disch := first | omega | simp only [List.length_append, List.length_cons, List.length_nil, List.length_map] <;> omega) only [hd, List.set_cons_zero, List.set_cons_succ, exc_int, exc_ptr, swp_seq, swp_reg, swp_skip, swp_block, swp_cond, seqK_n, condK_t, evK_some, appK_eq, srun_nil, srun_cons, stepK_call, sk_mv, sk_bin, get_mk, raw_slot, raw_lit, put_some, wb_nil, ev_mv, bin_lss, ro_int, ro_ptr, got_int, got_ptr, pubs, pubsFrom, List.map_cons, List.map_nil, List.getD_cons_zero, List.getD_cons_succ, List.length_cons, List.length_nil, List.replicate_succ, List.replicate_zero, List.cons_append, List.nil_append, Nat.reduceAdd, Bool.false_eq_true, ↓reduceIte, Nat.zero_add, List.length_append]
  refine callK_intro (y0 _ _ (by rw [getA]; rfl)) ?_
  simp (maxSteps := 2000000) (disch := first | omega | simp only [List.length_append, List.length_cons, List.length_nil, List.length_map] <;> omega) only [sP, cv_str, cell_str, setA, List.append_assoc, List.set_cons_zero, List.set_cons_succ, exc_int, exc_str, exc_ptr, swp_seq, swp_reg, seqK_n, evK_some, appK_eq, appC_eq, srun_nil, srun_cons, stepK_call, sk_mv, sk_store, sk_bld, sk_alloc, get_mk, raw_slot, raw_lit, put_some, put_none, wb_nil, ev_mv, ev_bld, ev_alloc, ro_ptr, got_int, got_str, got_ptr, pubs, pubsFrom, List.map_cons, List.map_nil, List.getD_cons_zero, List.getD_cons_succ, List.length_cons, List.length_nil, List.cons_append, List.nil_append, Nat.reduceAdd, Nat.reduceLeDiff, and_true, Bool.false_eq_true, Option.map_some, ↓reduceIte, List.all_cons, List.all_nil, Bool.and_self, List.zip_cons_cons, List.zip_nil_right, fillV, wrCells, Nat.zero_add, List.length_append]
  refine callK_intro (y1 _ _ (by rw [getA]; rfl)) ?_
  simp (maxSteps := 2000000) (disch := first | omega | simp only [List.length_append, List.length_cons, List.length_nil, List.length_map] <;> omega) only [getA, setA, List.set_cons_zero, List.set_cons_succ, exc_int, exc_ptr, swp_seq, swp_reg, seqK_n, evK_some, appK_eq, appC_eq, srun_nil, srun_cons, stepK_call, sk_mv, sk_bin, sk_fld, sk_store, get_mk, raw_slot, raw_lit, put_some, put_none, wb_nil, ev_mv, ev_fld, bin_eql, stP_some, ro_int, ro_ptr, got_int, got_ptr, pubs, pubsFrom, List.map_cons, List.map_nil, List.getD_cons_zero, List.getD_cons_succ, List.getElem?_cons_zero, List.getElem?_cons_succ, List.length_cons, List.length_nil, Nat.reduceAdd, Nat.reduceLT, Bool.false_eq_true, ↓reduceIte, Nat.zero_add, st_bool]
  refine callK_intro (y2 _ _ (by rw [getA]; rfl)) ?_
  simp (maxSteps := 2000000) (disch := first | omega | simp only [List.length_append, List.length_cons, List.length_nil, List.length_map] <;> omega) only [getA, setA, List.set_cons_zero, List.set_cons_succ, exc_int, exc_ptr, swp_seq, swp_reg, seqK_n, evK_some, appK_eq, appC_eq, srun_nil, srun_cons, stepK_call, sk_mv, sk_fld, sk_store, get_mk, raw_slot, put_some, put_none, wb_nil, ev_mv, ev_fld, stP_some, ro_int, ro_ptr, got_int, got_ptr, pubs, pubsFrom, List.map_cons, List.map_nil, List.getD_cons_zero, List.getD_cons_succ, List.getElem?_cons_zero, List.getElem?_cons_succ, List.length_cons, List.length_nil, Nat.reduceAdd, Nat.reduceLT, Bool.false_eq_true, ↓reduceIte, Nat.zero_add, st_int]
  refine callK_intro (y3 _ _ (by rw [getA]; rfl)) ?_
  simp (maxSteps := 2000000) (disch := first | omega | simp only [List.length_append, List.length_cons, List.length_nil, List.length_map] <;> omega) only [getA, setA, List.set_cons_zero, List.set_cons_succ, exc_int, exc_ptr, swp_seq, swp_reg, seqK_n, evK_some, appK_eq, appC_eq, srun_nil, srun_cons, stepK_call, sk_mv, sk_fld, sk_store, get_mk, raw_slot, put_some, put_none, wb_nil, ev_mv, ev_fld, stP_some, ro_int, ro_ptr, got_int, got_ptr, pubs, pubsFrom, List.map_cons, List.map_nil, List.getD_cons_zero, List.getD_cons_succ, List.getElem?_cons_zero, List.getElem?_cons_succ, List.length_cons, List.length_nil, Nat.reduceAdd, Nat.reduceLT, Bool.false_eq_true, ↓reduceIte, Nat.zero_add, st_int]
  refine callK_intro (y4 _ _ (by rw [getA]; rfl)) ?_
  simp (maxSteps := 2000000) (disch := first | omega | simp only [List.length_append, List.length_cons, List.length_nil, List.length_map] <;> omega) only [getA, setA, Nat.add_zero, List.set_cons_zero, List.set_cons_succ, exc_int, exc_ptr, swp_seq, swp_reg, seqK_n, evK_some, appK_eq, appC_eq, srun_nil, srun_cons, stepK_call, sk_mv, sk_fld, sk_store, get_mk, raw_slot, put_some, put_none, wb_nil, ev_mv, ev_fld, stP_some, ro_int, ro_ptr, got_int, got_ptr, pubs, pubsFrom, List.map_cons, List.map_nil, List.getD_cons_zero, List.getD_cons_succ, List.getElem?_cons_zero, List.getElem?_cons_succ, List.length_cons, List.length_nil, Nat.reduceAdd, Nat.reduceLT, Bool.false_eq_true, ↓reduceIte, Nat.zero_add, st_int]
  refine callK_intro (y5 _ _ (by rw [getA]; rfl)) ?_
  simp (maxSteps := 2000000) (disch := first | omega | simp only [List.length_append, List.length_cons, List.length_nil, List.length_map] <;> omega) only [getA, setA, List.set_cons_zero, List.set_cons_succ, exc_int, exc_ptr, swp_seq, swp_reg, seqK_n, evK_some, appK_eq, appC_eq, srun_nil, srun_cons, stepK_call, sk_mv, sk_fld, sk_store, get_mk, raw_slot, raw_lit, put_some, put_none, wb_nil, ev_mv, ev_fld, stP_some, ro_ptr, got_int, got_ptr, pubs, pubsFrom, List.map_cons, List.map_nil, List.getD_cons_zero, List.getD_cons_succ, List.getElem?_cons_zero, List.getElem?_cons_succ, List.length_cons, List.length_nil, Nat.reduceAdd, Nat.reduceLT, Bool.false_eq_true, ↓reduceIte, Nat.zero_add, st_int]
  refine callK_intro (y6 _ _ (by rw [getA]; rfl)) ?_
  simp (maxSteps := 2000000) (disch := first | omega | simp only [List.length_append, List.length_cons, List.length_nil, List.length_map] <;> omega) only [setA, List.set_cons_zero, List.set_cons_succ, flg_int, exc_int, swp_seq, swp_reg, swp_block, seqK_n, evK_some, appK_eq, appC_eq, srun_nil, srun_cons, sk_take, sk_give, get_mk, raw_slot, raw_lit, put_some, wb_nil, ev_take, ev_give, ro_int, got_int, List.map_cons, List.map_nil, List.getD_cons_zero, List.getD_cons_succ, Bool.false_eq_true, ↓reduceIte]
  refine swp_lp (fun S => ∃ (j : Nat), j ≤ kk ∧ S = ⟨[.undef, .undef, .ptr st.length 0, .int .i64 0, .ptr (st.length + 1) 0, .int .i64 4294967295, .ptr (st.length + 2) 0, .int .i64 nn, .int .i64 i, .ptr (st.length + 3) 0, .int .i64 kk, .int .i64 j] ++ List.replicate 95 .undef, st ++ [.cells [.int .i64 0, .int .i64 0, .int .i64 0, .int .i64 0, .int .i64 0, .int .i64 0, .int .i64 0, .nilS], .cells [v, .int .i64 (numsF 4294967295 j u7).2.p, .int .i64 (numsF 4294967295 j u7).2.e], .cells [.int .i64 h0, .int .i64 h1, .int .i64 h2, .int .i64 h3, .int .i64 h4, .int .i64 h5, .int .i64 h6, pvS (.own 7) L], .cells [.str t, .bool (a == 1), .int .i64 b0, chR (.own 1) (numsF 4294967295 j u7).1, .int .i64 b1, .int .i64 b2, .int .i64 b3]]⟩) (fun S => match S.get 11 with | .int _ k => ((kk : Int) - k).toNat | _ => 0) ⟨[.undef, .undef, .ptr st.length 0, .int .i64 0, .ptr (st.length + 1) 0, .int .i64 4294967295, .ptr (st.length + 2) 0, .int .i64 nn, .int .i64 i, .ptr (st.length + 3) 0, .int .i64 kk, .int .i64 (0 : Nat)] ++ List.replicate 95 .undef, st ++ [.cells [.int .i64 0, .int .i64 0, .int .i64 0, .int .i64 0, .int .i64 0, .int .i64 0, .int .i64 0, .nilS], .cells [v, .int .i64 (numsF 4294967295 0 u7).2.p, .int .i64 (numsF 4294967295 0 u7).2.e], .cells [.int .i64 h0, .int .i64 h1, .int .i64 h2, .int .i64 h3, .int .i64 h4, .int .i64 h5, .int .i64 h6, pvS (.own 7) L], .cells [.str t, .bool (a == 1), .int .i64 b0, chR (.own 1) (numsF 4294967295 0 u7).1, .int .i64 b1, .int .i64 b2, .int .i64 b3]]⟩ ?_ ⟨0, Nat.zero_le _, rfl⟩ ?_
  · refine Forget.of ?_
    repeat first | exact fg_e | refine fg_d ?_ | refine fg_k rfl ?_
  rintro S ⟨j, hj, rfl⟩
  obtain ⟨hwj, hlj, hnj⟩ := rdOk_nums (most := 4294967295) j hu7
  have hsn := numsF_snoc 4294967295 j u7
  by_cases hjk : j = kk
  · have hd2 : decide ((j : Int) < (kk : Int)) = false := by rw [decide_eq_false_iff_not]; omega
    subst hjk
    rw [← hqC] at hwj hlj hnj ⊢
    obtain ⟨ch, sz, eC⟩ : ∃ a b, qC si = (a, b) := ⟨_, _, rfl⟩
    rw [hqc, eC] at hnext
    rw [eC]
    simp only at hnext ⊢
    have rr := ro_chR 1 ch
    have rr1 := ro1_chR 1 ch
    have rr2 := ro1_chRr ch
    have rc := cell_chR .ro ch
    have hok2 : okSt (st ++ [.cells [.int .i64 0, .int .i64 0, .int .i64 0, .int .i64 0, .int .i64 0, .int .i64 0, .int .i64 0, .nilS], .cells [v, .int .i64 sz.p, .int .i64 sz.e], .cells [.int .i64 h0, .int .i64 h1, .int .i64 h2, .int .i64 h3, .int .i64 h4, .int .i64 h5, .int .i64 h6, pvS (.own 7) (L ++ [⟨t, a == 1, b0, chR .ro ch, ch, b1, b2, b3⟩])]]) := by
      refine okSt_appL ho ?_
      have : ∀ k, idOk k (pvS (.own 7) (L ++ [⟨t, a == 1, b0, chR .ro ch, ch, b1, b2, b3⟩])) = true := fun k => idOk_pvS (fun p hp => by
        rcases List.mem_append.1 hp with hp | hp
        · exact hids k p hp
        · obtain rfl := List.mem_singleton.1 hp
          exact idOk_chR _ _ _)
      simp only [List.all_cons, List.all_nil, Bool.and_true, obOk, idOks, idOk, this, hvid]
    obtain ⟨P, hP⟩ : ∃ P : Pc, (⟨t, a == 1, b0, chR .ro ch, ch, b1, b2, b3⟩ : Pc) = P := ⟨_, rfl⟩
    have hPc : P.cells = [.str t, .bool (a == 1), .int .i64 b0, chR .ro ch, .int .i64 b1, .int .i64 b2, .int .i64 b3] := by rw [← hP]; rfl
    rw [hP] at hnext hok2
    have hidc : ∀ f k, idOk k (chR f ch) = true := fun f k => idOk_chR f k ch
    by_cases hL : L = []
    · subst hL
      obtain rfl : i = 0 := by simpa using hLl.symm
      have hpv : pvS (.own 7) ([] ++ [P]) = .sl P.cells 1 (.own 7) := by rw [List.nil_append]; exact pvS_ne _ (l := [P]) (by simp) |>.trans (by simp)
      have hp0 : pvS (.own 7) [] = .nilS := rfl
      rw [hpv, hPc] at hok2
      simp (maxSteps := 2000000) (disch := first | omega | simp only [List.length_append, List.length_cons, List.length_nil, List.length_map] <;> omega) only [hd2, rr1, rr2, rc, hp0, st_exclW, cv_agg, cell_str, cell_int, cell_bool, getA, setA, ev_ldA, List.drop_zero, List.take_succ_cons, List.take_zero, List.set_cons_zero, List.set_cons_succ, lpK_n, lpK_e, sk_loadG, ev_loadG, apO_some, flg_int, flg_nilS, exc_agg, swp_seq, swp_reg, swp_exit, swp_cond, seqK_n, seqK_e, blkK_n, blkK_e, condK_f, evK_some, appK_eq, srun_nil, srun_cons, sk_mv, sk_give, sk_bin, sk_fld, sk_load, sk_store, sk_bsl, sk_app, get_mk, raw_slot, raw_lit, put_some, put_none, wb_nil, wb_cons, ev_mv, ev_give, ev_fld, bin_add, bin_lss, ev_bsl, ro_int, ro_nilS, ro_agg, ro1_int, ro1_str, ro1_bool, got_agg, pubs, pubsFrom, List.map_cons, List.map_nil, List.getD_cons_zero, List.getD_cons_succ, List.getElem?_cons_zero, List.getElem?_cons_succ, List.length_cons, List.length_nil, List.replicate_succ, List.replicate_zero, List.cons_append, List.nil_append, Nat.reduceAdd, Nat.reduceLT, and_true, Bool.false_eq_true, Option.map_some, ↓reduceIte, List.all_cons, List.all_nil, Bool.and_self, List.zip_cons_cons, List.zip_nil_right, rep, fillV, wrCells, List.flatten_cons, List.flatten_nil, List.append_nil, decide_true, Nat.zero_mul, Nat.zero_add, Int.cast_ofNat_Int, Int.reduceAdd, wrap_i64, List.length_append, Nat.le_refl, app_nil]
      refine ⟨_, Forget.cutA (l := [_, _, _]) (x := [_]) ?_ (by simp) ?_ hok2, ⟨0 + 1, by omega, by rw [hnext]; simp only [hpv, hPc]; rfl⟩, by exact fin⟩
      · repeat first | exact fg_e | refine fg_d ?_ | refine fg_k rfl ?_
      · simp [idOks, idOk]
    · have hpv : pvS (.own 7) (L ++ [P]) = .sl (L.flatMap Pc.cells ++ P.cells) (i + 1) (.own 7) := by rw [pvS_ne _ (by simp), List.flatMap_append, List.length_append, hLl]; simp
      rw [pvS_ne _ hL, hLl]
      have hFl : (L.flatMap Pc.cells).length = i * 7 := by rw [flat_len (pc_len _), hLl]
      obtain ⟨F, eF⟩ : ∃ F, L.flatMap Pc.cells = F := ⟨_, rfl⟩
      rw [eF] at hFl hpv ⊢
      rw [hpv, hPc] at hok2
      simp (maxSteps := 2000000) (disch := first | omega | simp only [List.length_append, List.length_cons, List.length_nil, List.length_map] <;> omega) only [hd2, rr1, rr2, rc, st_ownW, cv_agg, cell_str, cell_int, cell_bool, getA, setA, ev_ldA, List.drop_zero, List.take_succ_cons, List.take_zero, List.set_cons_zero, List.set_cons_succ, lpK_n, lpK_e, app_own, sk_loadG, ev_loadG, apO_some, flg_int, flg_own, exc_agg, swp_seq, swp_reg, swp_exit, swp_cond, seqK_n, seqK_e, blkK_n, blkK_e, condK_f, evK_some, appK_eq, srun_nil, srun_cons, sk_mv, sk_give, sk_bin, sk_fld, sk_load, sk_store, sk_bsl, sk_app, get_mk, raw_slot, raw_lit, put_some, put_none, wb_nil, wb_cons, ev_mv, ev_give, ev_fld, bin_add, bin_lss, ev_bsl, ro_int, ro_own, ro_agg, ro1_int, ro1_str, ro1_bool, got_agg, pubs, pubsFrom, List.map_cons, List.map_nil, List.getD_cons_zero, List.getD_cons_succ, List.getElem?_cons_zero, List.getElem?_cons_succ, List.length_cons, List.length_nil, List.replicate_succ, List.replicate_zero, List.cons_append, List.nil_append, Nat.reduceAdd, Nat.reduceLT, and_true, Bool.false_eq_true, Option.map_some, ↓reduceIte, List.all_cons, List.all_nil, Bool.and_self, List.zip_cons_cons, List.zip_nil_right, rep, fillV, wrCells, List.flatten_cons, List.flatten_nil, List.append_nil, decide_true, Nat.zero_mul, Nat.zero_add, wrap_i64, List.length_append, Nat.le_refl]
      refine ⟨_, Forget.cutA (l := [_, _, _]) (x := [_]) ?_ (by simp) ?_ hok2, ⟨i + 1, by omega, by rw [hnext]; simp only [hpv, hPc]; rfl⟩, by exact fin⟩
      · repeat first | exact fg_e | refine fg_d ?_ | refine fg_k rfl ?_
      · simp [idOks, idOk]
  · have hd2 : decide ((j : Int) < (kk : Int)) = true := by rw [decide_eq_true_eq]; omega
    have fin2 := fin_ltq (show j < kk by omega)
    obtain ⟨X, w, eX⟩ : ∃ X w, numsF 4294967295 j u7 = (X, w) := ⟨_, _, rfl⟩
    rw [eX] at hwj hlj hnj hsn ⊢
    simp only at hwj hlj hnj hsn ⊢
    obtain ⟨z, w2, ez⟩ : ∃ a b, W.numF w 4294967295 = (a, b) := ⟨_, _, rfl⟩
    have yj := fun st rid hg => x46 (st := st) (rid := rid) hwj hg 4294967295
    rw [ez] at hsn yj
    simp only at hsn yj
    rcases chR_or (.own 1) X with ⟨hX0, hX⟩ | ⟨hXn, hX⟩
    · subst hX0
      obtain rfl : j = 0 := by simpa using hnj.symm
      have hd3 : decide ((0 : Int) < (kk : Int)) = true := by rw [decide_eq_true_eq]; omega
      rw [hX]
      simp (maxSteps := 2000000) (disch := first | omega | simp only [List.length_append, List.length_cons, List.length_nil, List.length_map] <;> omega) only [hd3, List.set_cons_zero, List.set_cons_succ, swp_seq, swp_reg, swp_skip, swp_block, swp_cond, seqK_n, condK_t, evK_some, appK_eq, srun_nil, srun_cons, sk_mv, sk_bin, sk_fld, get_mk, raw_slot, put_some, wb_nil, ev_mv, ev_fld, bin_lss, ro_int, ro_ptr, List.map_cons, List.map_nil, List.getD_cons_zero, List.getD_cons_succ, List.length_cons, List.length_nil, List.replicate_succ, List.replicate_zero, List.cons_append, List.nil_append, Nat.reduceAdd, Nat.zero_add, Int.cast_ofNat_Int, List.length_append]
      apply swp_to
      · repeat' first
          | exact swp_ttI
          | refine swp_bothI ?_ ?_
          | refine callK_intro (yj _ _ (by rw [getA]; rfl)) ?_
          | exact ⟨rfl, rfl⟩
          | exact rfl
          | simp (maxSteps := 2000000) (disch := first | omega | simp only [List.length_append, List.length_cons, List.length_nil, List.length_map] <;> omega) only [st_exclW, cv_int, cell_int, getA, setA, List.set_cons_zero, List.set_cons_succ, sk_loadG, ev_loadG, apO_some, flg_nilS, exc_int, exc_ptr, swp_reg, evK_some, appK_eq, appC_eq, srun_nil, srun_cons, stepK_call, sk_fld, sk_store, sk_bsl, sk_app, get_mk, raw_slot, put_some, put_none, wb_nil, wb_cons, ev_fld, ev_bsl, ro_nilS, got_int, got_ptr, pubs, pubsFrom, List.map_cons, List.map_nil, List.getD_cons_zero, List.getD_cons_succ, List.getElem?_cons_zero, List.getElem?_cons_succ, List.length_cons, List.length_nil, List.replicate_succ, List.replicate_zero, Nat.reduceAdd, Nat.reduceLT, true_and, and_true, Bool.false_eq_true, Option.map_some, ↓reduceIte, List.all_cons, List.all_nil, Bool.and_self, List.zip_cons_cons, List.zip_nil_right, rep, fillV, wrCells, List.flatten_cons, List.flatten_nil, List.append_nil, decide_true, Nat.mul_one, Nat.zero_add, Nat.le_refl, app_nil]
      simp (maxSteps := 2000000) (disch := first | omega | simp only [List.length_append, List.length_cons, List.length_nil, List.length_map] <;> omega) only [List.set_cons_zero, List.set_cons_succ, lpK_n, flg_int, swp_reg, seqK_n, blkK_n, evK_some, appK_eq, srun_nil, srun_cons, sk_mv, sk_give, sk_bin, get_mk, raw_slot, raw_lit, put_some, wb_nil, ev_mv, ev_give, bin_add, ro_int, List.map_cons, List.map_nil, List.getD_cons_zero, List.getD_cons_succ, Bool.false_eq_true, ↓reduceIte, Int.reduceAdd, wrap_i64]
      refine ⟨_, ?_, ⟨0 + 1, by omega, rfl⟩, by exact fin2⟩
      rw [hsn]
      refine Forget.of ?_
      repeat first | exact fg_e | refine fg_d ?_ | refine fg_k rfl ?_
    · have hch : chR (.own 1) (X ++ [z]) = .sl (isv X ++ [.int .i64 z]) (j + 1) (.own 1) := by rw [chR_not _ (by simp), List.length_append, hnj]; simp [isv]
      have hFl : (isv X).length = j * 1 := by rw [isv_len, hnj, Nat.mul_one]
      rw [hX, hnj]
      obtain ⟨F, eF⟩ : ∃ F, isv X = F := ⟨_, rfl⟩
      rw [eF] at hFl hch ⊢
      simp (maxSteps := 2000000) (disch := first | omega | simp only [List.length_append, List.length_cons, List.length_nil, List.length_map] <;> omega) only [hd2, List.set_cons_zero, List.set_cons_succ, swp_seq, swp_reg, swp_skip, swp_block, swp_cond, seqK_n, condK_t, evK_some, appK_eq, srun_nil, srun_cons, sk_mv, sk_bin, sk_fld, get_mk, raw_slot, put_some, wb_nil, ev_mv, ev_fld, bin_lss, ro_int, ro_ptr, List.map_cons, List.map_nil, List.getD_cons_zero, List.getD_cons_succ, List.length_cons, List.length_nil, List.replicate_succ, List.replicate_zero, List.cons_append, List.nil_append, Nat.reduceAdd, Nat.zero_add, List.length_append]
      apply swp_to
      · repeat' first
          | exact swp_ttI
          | refine swp_bothI ?_ ?_
          | refine callK_intro (yj _ _ (by rw [getA]; rfl)) ?_
          | exact ⟨rfl, rfl⟩
          | exact rfl
          | simp (maxSteps := 2000000) (disch := first | omega | simp only [List.length_append, List.length_cons, List.length_nil, List.length_map] <;> omega) only [st_ownW, cv_int, cell_int, getA, setA, List.set_cons_zero, List.set_cons_succ, app_own, sk_loadG, ev_loadG, apO_some, flg_own, exc_int, exc_ptr, swp_reg, evK_some, appK_eq, appC_eq, srun_nil, srun_cons, stepK_call, sk_fld, sk_store, sk_bsl, sk_app, get_mk, raw_slot, put_some, put_none, wb_nil, wb_cons, ev_fld, ev_bsl, ro_own, got_int, got_ptr, pubs, pubsFrom, List.map_cons, List.map_nil, List.getD_cons_zero, List.getD_cons_succ, List.getElem?_cons_zero, List.getElem?_cons_succ, List.length_cons, List.length_nil, List.replicate_succ, List.replicate_zero, Nat.reduceAdd, Nat.reduceLT, true_and, and_true, Bool.false_eq_true, Option.map_some, ↓reduceIte, List.all_cons, List.all_nil, Bool.and_self, List.zip_cons_cons, List.zip_nil_right, rep, fillV, wrCells, List.flatten_cons, List.flatten_nil, List.append_nil, decide_true, Nat.mul_one, Nat.zero_add, Nat.le_refl]
      simp (maxSteps := 2000000) (disch := first | omega | simp only [List.length_append, List.length_cons, List.length_nil, List.length_map] <;> omega) only [List.set_cons_zero, List.set_cons_succ, lpK_n, flg_int, swp_reg, seqK_n, blkK_n, evK_some, appK_eq, srun_nil, srun_cons, sk_mv, sk_give, sk_bin, get_mk, raw_slot, raw_lit, put_some, wb_nil, ev_mv, ev_give, bin_add, ro_int, List.map_cons, List.map_nil, List.getD_cons_zero, List.getD_cons_succ, Bool.false_eq_true, ↓reduceIte, wrap_i64]
      refine ⟨_, ?_, ⟨j + 1, by omega, rfl⟩, by exact fin2⟩
      rw [hsn]
      simp only [hch]
      refine Forget.of ?_
      repeat first | exact fg_e | refine fg_d ?_ | refine fg_k rfl ?_
end Go.Sh.F
namespace Go.Sh.F
open Go.PathLaw Go.Proofs
theorem text_up {s : W.RdS} (h : (W.textF s 52).2.e = 0) : W.textF s 100 = W.textF s 52 := by
  unfold W.textF at h ⊢
  have e1 : W.minI 52 16384 = 52 := rfl
  have e2 : W.minI 100 16384 = 100 := rfl
  rw [e1] at h ⊢
  rw [e2]
  have : W.numF s 100 = W.numF s 52 := by
    unfold W.numF at h ⊢
    by_cases h1 : s.e ≠ 0
    · rw [if_pos h1, if_pos h1]
    · rw [if_neg h1] at h ⊢
      rw [if_neg h1]
      by_cases h2 : s.l.length < s.p + 4
      · rw [if_pos h2, if_pos h2]
      · rw [if_neg h2] at h ⊢
        rw [if_neg h2]
        by_cases h3 : (52 : Int) < W.num4 ((s.l.take (s.p + 4)).drop s.p)
        · rw [if_pos h3] at h
          simp at h
        · rw [if_neg h3, if_neg (by omega)]
  rw [this]
theorem text_dn {s : W.RdS} (h : (W.textF s 100).2.e = 0) (hl : (W.textF s 100).1.length ≤ 52) : W.textF s 52 = W.textF s 100 := by
  unfold W.textF at h hl ⊢
  have e1 : W.minI 52 16384 = 52 := rfl
  have e2 : W.minI 100 16384 = 100 := rfl
  rw [e2] at h hl ⊢
  rw [e1]
  have : W.numF s 52 = W.numF s 100 := by
    unfold W.numF at h hl ⊢
    by_cases h1 : s.e ≠ 0
    · rw [if_pos h1, if_pos h1]
    · rw [if_neg h1] at h hl ⊢
      rw [if_neg h1]
      by_cases h2 : s.l.length < s.p + 4
      · rw [if_pos h2, if_pos h2]
      · rw [if_neg h2] at h hl ⊢
        rw [if_neg h2]
        by_cases h3 : (100 : Int) < W.num4 ((s.l.take (s.p + 4)).drop s.p)
        · rw [if_pos h3] at h
          simp at h
        · rw [if_neg h3] at h hl ⊢
          generalize W.num4 ((s.l.take (s.p + 4)).drop s.p) = n at *
          simp only at h hl
          have h0 : ¬ s.e ≠ 0 := h1
          rw [if_neg h0] at h hl
          by_cases h4 : (s.l.length : Int) - ((s.p + 4 : Nat) : Int) < n
          · rw [if_pos h4] at h
            simp at h
          · rw [if_neg h4] at hl
            simp only [List.length_drop, List.length_take] at hl
            rw [if_neg (by omega)]
  rw [this]
theorem numsF_err {s : W.RdS} (h : s.e ≠ 0) (m : Int) (k : Nat) : (numsF m k s).2 = s := by
  induction k with
  | zero => rfl
  | succ k ih => rw [numsF_snoc]; simp only [ih]; rw [W.numF_err h]
theorem pC_text {s : W.RdS} (h : (pC s).2.e = 0) : (pT s).2.e = 0 := by
  by_cases h0 : (pT s).2.e = 0
  · exact h0
  · exfalso
    have h2 : (pA s).2 = (pT s).2 := by unfold pA; rw [W.numF_err h0]
    have h3 : (pB s).2 = (pT s).2 := by unfold pB; rw [h2]; exact numsF_err h0 _ _
    have h4 : (pK s).2 = (pT s).2 := by unfold pK; rw [h3, W.numF_err h0]
    have h5 : (pC s).2 = (pT s).2 := by unfold pC; rw [h4]; exact numsF_err h0 _ _
    rw [h5] at h
    exact h0 h
theorem qC_text {s : W.RdS} (h : (qC s).2.e = 0) : (qT s).2.e = 0 := by
  by_cases h0 : (qT s).2.e = 0
  · exact h0
  · exfalso
    have h2 : (qA s).2 = (qT s).2 := by unfold qA; rw [W.numF_err h0]
    have h3 : (qB s).2 = (qT s).2 := by unfold qB; rw [h2]; exact numsF_err h0 _ _
    have h4 : (qK s).2 = (qT s).2 := by unfold qK; rw [h3, W.numF_err h0]
    have h5 : (qC s).2 = (qT s).2 := by unfold qC; rw [h4]; exact numsF_err h0 _ _
    rw [h5] at h
    exact h0 h
theorem qC_err {s : W.RdS} (h : s.e ≠ 0) : (qC s).2 = s := by
  have h1 : (qT s).2 = s := by unfold qT; rw [W.textF_err h]
  have h2 : (qA s).2 = s := by unfold qA; rw [h1, W.numF_err h]
  have h3 : (qB s).2 = s := by unfold qB; rw [h2]; exact numsF_err h _ _
  have h4 : (qK s).2 = s := by unfold qK; rw [h3, W.numF_err h]
  unfold qC; rw [h4]; exact numsF_err h _ _
theorem pq_same {s : W.RdS} (id : Nat) (h : pT s = qT s) : pC s = qC s ∧ (pcF id s).pl = (qcF s).pl := by
  have hA : pA s = qA s := by unfold pA qA; rw [h]
  have hB : pB s = qB s := by unfold pB qB; rw [hA]
  have hK : pK s = qK s := by unfold pK qK; rw [hB]
  have hC : pC s = qC s := by unfold pC qC; rw [hK]
  refine ⟨hC, ?_⟩
  unfold pcF qcF Pc.pl
  rw [h, hA, hB, hC]
theorem ps_qs (b : Nat) : ∀ (k : Nat) {s : W.RdS}, (psF b k s).2.e = 0 → (qsF k s).2 = (psF b k s).2 ∧ (qsF k s).1.map Pc.pl = (psF b k s).1.map Pc.pl
  | 0, s, _ => ⟨rfl, rfl⟩
  | k + 1, s, h => by
    have h0 : (psF b k s).2.e = 0 := by
      by_cases h0 : (psF b k s).2.e = 0
      · exact h0
      · exfalso; rw [psF, pC_err h0] at h; exact h0 h
    obtain ⟨h1, h2⟩ := ps_qs b k h0
    have h3 : (pC (psF b k s).2).2.e = 0 := h
    have h4 : pT (psF b k s).2 = qT (psF b k s).2 := (text_up (pC_text h3)).symm
    obtain ⟨h5, h6⟩ := pq_same (b + (3 * k + 2)) h4
    refine ⟨?_, ?_⟩
    · show (qC (qsF k s).2).2 = (pC (psF b k s).2).2
      rw [h1, h5]
    · show ((qsF k s).1 ++ [qcF (qsF k s).2]).map Pc.pl = ((psF b k s).1 ++ [pcF (b + (3 * k + 2)) (psF b k s).2]).map Pc.pl
      rw [List.map_append, List.map_append, h2, h1, List.map_cons, List.map_cons, h6, List.map_nil]
theorem qs_ps (b : Nat) : ∀ (k : Nat) {s : W.RdS}, (qsF k s).2.e = 0 → (∀ p ∈ (qsF k s).1, p.path.length ≤ 52) → (psF b k s).2 = (qsF k s).2
  | 0, s, _, _ => rfl
  | k + 1, s, h, hp => by
    have h0 : (qsF k s).2.e = 0 := by
      by_cases h0 : (qsF k s).2.e = 0
      · exact h0
      · exfalso; rw [qsF, qC_err h0] at h; exact h0 h
    rw [qsF] at hp
    simp only at hp
    have h1 := qs_ps b k h0 (fun p hq => hp p (List.mem_append_left _ hq))
    have h3 : (qC (qsF k s).2).2.e = 0 := h
    have h4 : pT (qsF k s).2 = qT (qsF k s).2 := text_dn (qC_text h3) (hp (qcF (qsF k s).2) (List.mem_append_right _ List.mem_cons_self))
    obtain ⟨h5, _⟩ := pq_same (b + (3 * k + 2)) h4
    show (pC (psF b k s).2).2 = (qC (qsF k s).2).2
    rw [h1, h5]
theorem rows_all : ∀ {l : List Pc}, rows l = true → ∀ p ∈ l, rightP p = true
  | [], _, p, hp => by simp at hp
  | [q], h, p, hp => by
    obtain rfl := List.mem_singleton.1 hp
    exact h
  | q :: q2 :: r, h, p, hp => by
    unfold rows at h
    simp only [Bool.and_eq_true] at h
    rcases List.mem_cons.1 hp with rfl | hp
    · exact h.1.1
    · exact rows_all h.2 p hp
theorem endF_zero {s : W.RdS} (h : (W.endF s).e = 0) : s.e = 0 := by
  by_cases h0 : s.e = 0
  · exact h0
  · rw [W.endF_err h0] at h; exact h
theorem read_same (b : Nat) (x : List UInt8) (h : (rdP b x).2.e = 0) : (mfQ x).pl = (mfR .ro b x).pl ∧ (qdP x).2 = (rdP b x).2 := by
  obtain ⟨h1, h2⟩ := ps_qs b (rdN x).1.toNat h
  refine ⟨?_, h1⟩
  have h3 : (qdP x).1.map Pc.pl = (rdP b x).1.map Pc.pl := h2
  unfold mfQ mfR Mf.pl
  simp only [h3]
theorem okR_okQ (b : Nat) (x : List UInt8) : okR b x = okQ x := by
  have key : ∀ h : (rdP b x).2.e = 0, okR b x = okQ x := by
    intro h
    obtain ⟨h1, h2⟩ := read_same b x h
    unfold okR okQ
    rw [h2, ← rightM_pl (mfQ x), h1, rightM_pl]
  by_cases h : (rdP b x).2.e = 0
  · exact key h
  · have h1 : okR b x = false := by
      unfold okR
      rw [W.endF_err h]
      simp [h]
    rw [h1]
    cases h2 : okQ x with
    | false => rfl
    | true =>
      exfalso
      unfold okQ at h2
      rw [Bool.and_eq_true, beq_iff_eq] at h2
      have h3 := endF_zero h2.1
      have h4 := h2.2
      unfold rightM at h4
      simp only [Bool.and_eq_true] at h4
      have h5 := qs_ps b (rdN x).1.toNat h3 (fun p hp => (rightP_facts (rows_all h4.1.2 p hp)).1)
      have h6 : (rdP b x).2 = (qdP x).2 := h5
      rw [h6] at h
      exact h h3
theorem rd_same (st : List Ob) (x : List UInt8) : sameM (rdM st x) (rdQ x) = true ∧ rdC st x = rdQc x := by
  unfold rdM rdQ rdC rdQc
  rw [okR_okQ]
  by_cases h : okQ x = true
  · repeat rw [if_pos h]
    refine ⟨?_, rfl⟩
    rw [sameM_iff]
    have h1 := h
    rw [← okR_okQ (st.length + 3)] at h1
    unfold okR at h1
    rw [Bool.and_eq_true, beq_iff_eq] at h1
    exact (read_same (st.length + 3) x (endF_zero h1.1)).1.symm
  · repeat rw [if_neg h]
    exact ⟨sameM_self _, rfl⟩
def KRq : List Ob → List SV → SV → Prop := fun st args r => ∃ x : List UInt8, x.length ≤ 268435456 ∧ okSt st ∧ args = [.str x] ∧ r = .tup [.agg (rdQ x).cells, .int .i64 (rdQc x)]
def O216 : Orc := O215.add 23 (StC KRq)
theorem s216 : Sound Tryd.prog O216 := s215.addS c23 (by kernel_rfl) (by
  rintro args r st ⟨x, hx, ho, rfl, rfl⟩
  exact ⟨by simp [sf23], g23r x st hx ho⟩)
theorem w23 {x : List UInt8} {st : List Ob} (hx : x.length ≤ 268435456) (ho : okSt st) : O216 23 [.str x] st (.tup [.agg (rdQ x).cells, .int .i64 (rdQc x)]) st := .inr ⟨rfl, rfl, x, hx, ho, rfl, rfl⟩
theorem mfQ_ok {x : List UInt8} (hx : x.length ≤ 268435456) (st : List Ob) : (rdQ x).ok st := by
  unfold rdQ
  split
  · obtain ⟨v, hve⟩ : ∃ v, SV.sl (W.bsv x) x.length .ro = v := ⟨_, rfl⟩
    have hv : W.rdv v x := hve ▸ rdv_s x
    have hs0 : rdOk v ⟨x, 0, 0⟩ := ⟨hv, by show x.length ≤ _; omega, Nat.zero_le _⟩
    obtain ⟨hs7, hl7, _⟩ := rdOk_nums (most := MX) 7 hs0
    obtain ⟨nn, hn1, hn2⟩ := numF_le (s := (hdS x).2) (most := 32) (by decide) hs7.2.2
    obtain ⟨hs8, hl8⟩ := rdOk_num hs7 32
    have hlen := qsF_len (rdN x).1.toNat (rdN x).2
    have hn3 : (rdN x).1.toNat = nn := by rw [show (rdN x).1 = (nn : Int) from hn1, Int.toNat_natCast]
    refine ⟨row_pvS _ _, ?_, ?_⟩
    · show (qsF (rdN x).1.toNat (rdN x).2).1.length ≤ _
      rw [hlen]; omega
    · refine qs_ok st _ hs8 ?_
      have e8 : (rdN x).2.l = x := hl8.trans hl7
      rw [e8]; exact hx
  · exact Mf.none_ok st
set_option maxHeartbeats 32000000 in
set_option maxRecDepth 50000 in
theorem g4r (x : List UInt8) (st : List Ob) (ho : okSt st) (hx : x.length ≤ 1048576) : swpF O216 sf4 [.str x] st (fun r st' => r = .bool true ∧ st' = st) := by
  simp (maxSteps := 2000000) (disch := first | omega | simp only [List.length_append, List.length_cons, List.length_nil, List.length_map] <;> omega) only [sf4, List.set_cons_zero, List.set_cons_succ, flg_bool, swp_seq, swp_reg, seqK_n, evK_some, appK_eq, srun_nil, srun_cons, stepK_call, swpF_eq, sk_give, raw_lit, put_some, wb_nil, ev_give, ro_bool, pubs, pubsFrom, List.map_cons, List.map_nil, List.length_cons, List.length_nil, List.replicate_succ, List.replicate_zero, List.cons_append, List.nil_append, Nat.reduceSub, Bool.false_eq_true, ↓reduceIte, Nat.zero_add]
  refine callK_intro (.inl (z10 ho)) ?_
  rcases bf (decide ((6000 : Int) < (x.length : Int))) with h6 | h6
  rotate_left
  · simp (maxSteps := 2000000) (disch := first | omega | simp only [List.length_append, List.length_cons, List.length_nil, List.length_map] <;> omega) only [h6, List.set_cons_zero, List.set_cons_succ, flg_bool, swp_seq, swp_reg, swp_ret, swp_cond, seqK_n, seqK_r, condK_t, evK_some, appK_eq, appC_eq, srun_nil, srun_cons, fin_ret, sk_mv, sk_give, sk_bin, sk_lenS, get_mk, raw_slot, raw_lit, put_some, wb_nil, ev_mv, ev_give, ev_lenS, bin_gtr, ro_bool, ro_str, List.map_cons, List.map_nil, List.getD_cons_zero, List.getD_cons_succ, true_and, Bool.false_eq_true, ↓reduceIte, gt_iff_lt]
    first | exact ⟨_, .same, rfl, rfl⟩ | exact ⟨_, .same, rfl⟩
  simp (maxSteps := 2000000) (disch := first | omega | simp only [List.length_append, List.length_cons, List.length_nil, List.length_map] <;> omega) only [h6, List.set_cons_zero, List.set_cons_succ, flg_bool, exc_str, swp_seq, swp_reg, swp_skip, swp_cond, seqK_n, condK_f, evK_some, appK_eq, appC_eq, srun_nil, srun_cons, stepK_call, sk_mv, sk_give, sk_bin, sk_lenS, get_mk, raw_slot, raw_lit, put_some, wb_nil, ev_mv, ev_give, ev_lenS, bin_gtr, ro_bool, ro_str, got_str, pubs, pubsFrom, List.map_cons, List.map_nil, List.getD_cons_zero, List.getD_cons_succ, Bool.false_eq_true, ↓reduceIte, gt_iff_lt]
  obtain ⟨sm1, sm2⟩ := rd_same st x
  obtain ⟨a1, a2, a3, a4⟩ := rdM_ok (st := st) (x := x) (by omega) ho
  have k22 : O216 22 [.str x] st (.tup [.agg (rdM st x).cells, .int .i64 (rdC st x)]) (rdT st x) := .inl (z22 (by omega) ho)
  have b1 := mfQ_ok (x := x) (by omega) (rdT st x)
  obtain ⟨y, eT⟩ := rdT_ext st x
  refine callK_intro k22 ?_
  have k23 := fun T (hT : okSt T) => w23 (x := x) (st := T) (by omega) hT
  rw [sm2]
  generalize rdT st x = T at *
  generalize rdM st x = m at *
  generalize rdQ x = q at *
  generalize rdQc x = c at *
  have r1 := ro1_mf a1
  have c1 := cell_mf a1
  have l1 : m.cells.length = 8 := rfl
  have t1 : m.cells.take 8 = m.cells := rfl
  have r2 := ro1_mf b1
  have c2 := cell_mf b1
  have l2 : q.cells.length = 8 := rfl
  have t2 : q.cells.take 8 = q.cells := rfl
  have sM := stM (st := T) (l := [.cells [.int .i64 0, .int .i64 0, .int .i64 0, .int .i64 0, .int .i64 0, .int .i64 0, .int .i64 0, .nilS]]) (i := 0) rfl rfl a1
  have sQ := stM (st := T) (l := [.cells m.cells, .cells [.int .i64 0, .int .i64 0, .int .i64 0, .int .i64 0, .int .i64 0, .int .i64 0, .int .i64 0, .nilS]]) (i := 1) rfl rfl b1
  simp only [List.set_cons_zero, List.set_cons_succ, Nat.add_zero] at sM sQ
  have okU := okM a1 a2
  simp (maxSteps := 2000000) (disch := first | omega | simp only [List.length_append, List.length_cons, List.length_nil, List.length_map] <;> omega) only [sM, r1, List.set_cons_zero, List.set_cons_succ, flg_int, flg_agg, exc_str, swp_seq, swp_reg, seqK_n, evK_some, appK_eq, appC_eq, srun_nil, srun_cons, stepK_call, sk_mv, sk_give, sk_store, sk_alloc, sk_ext, get_mk, raw_slot, put_some, put_none, wb_nil, ev_mv, ev_give, ev_ext, ev_alloc, ro_int, ro_str, ro_agg, ro_tup, ro2_int, got_str, pubs, pubsFrom, List.map_cons, List.map_nil, List.getD_cons_zero, List.getD_cons_succ, List.getElem?_cons_zero, List.getElem?_cons_succ, Bool.false_eq_true, Option.map_some, ↓reduceIte]
  refine callK_intro (k23 _ okU) ?_
  simp (maxSteps := 2000000) (disch := first | omega | simp only [List.length_append, List.length_cons, List.length_nil, List.length_map] <;> omega) only [sQ, r1, l1, t1, r2, l2, t2, getA0, getA, ev_ldA, List.drop_zero, List.append_assoc, List.set_cons_zero, List.set_cons_succ, apO_some, flg_int, flg_agg, exc_agg, swp_seq, swp_reg, seqK_n, evK_some, appK_eq, appC_eq, grd_t, srun_nil, srun_cons, stepK_call, stepK_grd, sk_mv, sk_give, sk_load, sk_store, sk_alloc, sk_ext, get_mk, raw_slot, put_some, put_none, wb_nil, ev_mv, ev_give, ev_ext, ev_alloc, ro_int, ro_bool, ro_agg, ro_tup, ro2_int, got_agg, pubs, pubsFrom, List.map_cons, List.map_nil, List.getD_cons_zero, List.getD_cons_succ, List.getElem?_cons_zero, List.getElem?_cons_succ, List.length_cons, List.length_nil, List.cons_append, List.nil_append, Bool.false_eq_true, Option.map_some, ↓reduceIte, Nat.zero_add, List.length_append, Nat.le_refl]
  have hm := a1.mono [.cells m.cells, .cells q.cells]
  have hq := b1.mono [.cells m.cells, .cells q.cells]
  have okV : okSt (T ++ [.cells m.cells, .cells q.cells]) := by
    have := okM (b1.mono [.cells m.cells]) okU
    simpa only [List.append_assoc, List.cons_append, List.nil_append] using this
  have k13 : O216 13 [.agg m.cells, .agg q.cells] (T ++ [.cells m.cells, .cells q.cells]) (.bool (sameM m q)) (T ++ [.cells m.cells, .cells q.cells]) := .inl (z13 hm hq okV)
  rw [sm1] at k13
  refine callK_intro k13 ?_
  simp (maxSteps := 2000000) (disch := first | omega | simp only [List.length_append, List.length_cons, List.length_nil, List.length_map] <;> omega) only [beq_self_eq_true, List.set_cons_zero, List.set_cons_succ, flg_bool, exc_int, swp_ret, seqK_n, evK_some, appK_eq, appC_eq, grd_t, srun_nil, srun_cons, stepK_grd, fin_ret, sk_mv, sk_take, sk_give, sk_pick, sk_bin, get_mk, raw_slot, raw_lit, put_some, wb_nil, ev_mv, ev_take, ev_give, ev_pick, bin_eql, ro_bool, got_int, List.map_cons, List.map_nil, List.getD_cons_zero, List.getD_cons_succ, true_and, Bool.false_eq_true, ↓reduceIte]
  rw [eT, List.append_assoc]
  first | exact ⟨_, trim1 ho rfl⟩ | exact ⟨_, trim1 ho rfl, rfl⟩ | exact ⟨_, trim1 ho rfl, rfl, rfl⟩ | exact ⟨_, trim1 ho rfl, by simp, rfl⟩ | exact ⟨_, trim1 ho rfl, by simp⟩
end Go.Sh.F
