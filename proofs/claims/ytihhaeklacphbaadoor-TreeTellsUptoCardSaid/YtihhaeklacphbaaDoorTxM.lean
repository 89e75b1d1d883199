/-
  The library's Delete and Insert over files: what they hand back, where their first argument is nobody else's.
  The library's Insert over files: at the end, and where there is no room.
-/
import Derived.Shelf.Spec.SlicesInsertGrow
import Derived.Deep.LoopGhost
import Derived.Deep.RegionLaw
import Derived.Lib.SliceRun
import Derived.Lib.SlicesDelete
import Derived.Deep.AppendSrc
import Derived.Test.YtihhaeklacphbaaDoorProg
set_option linter.unusedSimpArgs false
set_option linter.unusedVariables false
namespace Go.Proofs
open Go.RowKit Go.Lib
structure Hide (p : Prop) : Prop where
  out : p
/-- The zero file. -/
abbrev zF : Value := .agg #[.string ⟨#[]⟩, .string ⟨#[]⟩]
theorem Tryd.infoF : ∃ i0, Tryd.prog.info? 33 = some i0 ∧ i0.zero = some zF ∧ i0.size = 2 ∧ i0.bytes = 32 := ⟨_, rfl, rfl, rfl, rfl⟩
theorem zc_list (n : Nat) : (Builtin.zeroCells zF.cells n).toList = List.replicate (n * 2) (Value.string ⟨#[]⟩) := by
  apply List.ext_getElem
  · simp [Builtin.zeroCells, Value.cells]
  · intro i h1 h2
    rw [List.getElem_replicate]
    simp only [Builtin.zeroCells, Value.cells, Array.getElem_toList, Array.getElem_ofFn]
    rcases Nat.mod_two_eq_zero_or_one i with h | h <;> simp [h]
theorem clear_F {P : Program} (w : World) (t e ty : TypeId) (ht : P.underlying t = some (.slice e)) (hv : ∀ w, (zeroValue e).run P w = .ok zF w) (b o n c : Nat) (hn : 0 < n)
    (hc : ∀ j, j < n * 2 → (w.cell? ⟨b, o + j, none⟩).isSome = true) (hf : ∀ j, j < n * 2 → w.frozen? ⟨b, o + j, none⟩ = false) :
    (Builtin.clear_ #[t] ty #[.slice (some ⟨b, o, none⟩) n c]).run P w = .ok (.tuple #[]) (w.setCells b o (List.replicate (n * 2) (.string ⟨#[]⟩))) := by
  have hst := run_storeCells_cells (P := P) b o (List.replicate (n * 2) (.string ⟨#[]⟩)) 0 w (by simpa using hc) (by simpa using hf) (by intro v hv'; rw [List.eq_of_mem_replicate hv']; rfl)
  simp only [Nat.add_zero] at hst
  have hz := zc_list n
  obtain ⟨m, rfl⟩ : ∃ m, n = m + 1 := ⟨n - 1, by omega⟩
  simp [Builtin.clear_, run_underlying ht, hv, hz, hst]
set_option maxHeartbeats 4000000 in
set_option maxRecDepth 1000000 in
theorem Tryd.delete_F (w : World) (b cap n i j : Nat) (cs : List Value) (hl : cs.length = n * 2) (hij : i < j) (hj : j ≤ n) (hnc : n ≤ cap) (hcap : cap ≤ 9223372036854775807)
    (hcs : ∀ t v, cs[t]? = some v → w.cell? ⟨b, 0 + t, none⟩ = some v) (hfz : ∀ t, t < n * 2 → w.frozen? ⟨b, 0 + t, none⟩ = false) (h1 : ∀ v ∈ cs, v.oneCell' = true) :
    Calls Tryd.prog 42 #[.slice (some ⟨b, 0, none⟩) n cap, .int .i64 i, .int .i64 j] w fun e w' => e = .returned (.slice (some ⟨b, 0, none⟩) (n - (j - i)) cap) ∧
      w' = (w.drew.setCells b (0 + i * 2) (cs.drop (j * 2))).setCells b (0 + (i + (n - j)) * 2) (List.replicate ((n - (i + (n - j))) * 2) (.string ⟨#[]⟩)) := by
  obtain ⟨i0, hi0, hz0, hz1, hz2⟩ := Tryd.infoF
  have t22 := Tryd.underlying22
  have mixed : Tryd.prog.follows .mixedOrders = true := by kernel_rfl
  obtain ⟨news, hnews⟩ : ∃ news, news = cs.drop (j * 2) := ⟨_, rfl⟩
  have hlen : news.length = (n - j) * 2 := by rw [hnews, List.length_drop, hl]; omega
  obtain ⟨A, hA, hsrc⟩ : ∃ A : Addr, (if cap = j then (some ⟨b, 0, none⟩ : Option Addr) else some ⟨b, j * 2, none⟩) = some A ∧ ∀ t u, news[t]? = some u → w.drew.cell? (A.add t) = some u := by
    by_cases h : cap = j
    · refine ⟨⟨b, 0, none⟩, by simp [h], fun t u hu => ?_⟩
      have h0 : news.length = 0 := by rw [hlen]; omega
      rw [List.length_eq_zero_iff.1 h0] at hu
      simp at hu
    · refine ⟨⟨b, j * 2, none⟩, by simp [h], fun t u hu => ?_⟩
      rw [hnews, List.getElem?_drop] at hu
      rw [Addr.add_lit]
      have := hcs _ _ hu
      rw [Nat.zero_add] at this
      exact this
  have s2 : ∀ u ∈ news, u.oneCell' = true := by intro u hu; rw [hnews] at hu; exact h1 u (List.mem_of_mem_drop hu)
  have hold : ∀ t, t < n * 2 → (w.drew.cell? ⟨b, 0 + t, none⟩).isSome = true := by
    intro t ht
    have := hcs t _ (List.getElem?_eq_getElem (by omega))
    show (w.cell? _).isSome = true
    rw [this]; rfl
  have s3 : ∀ t, t < news.length → (w.drew.cell? ⟨b, 0 + i * 2 + t, none⟩).isSome = true ∧ w.drew.frozen? ⟨b, 0 + i * 2 + t, none⟩ = false := by
    intro t ht
    rw [hlen] at ht
    rw [Nat.add_assoc]
    exact ⟨hold _ (by omega), hfz _ (by omega)⟩
  obtain ⟨W1, hW1⟩ : ∃ W1, W1 = w.drew.setCells b (0 + i * 2) news := ⟨_, rfl⟩
  have hc1 : ∀ t, t < n * 2 → (W1.cell? ⟨b, 0 + t, none⟩).isSome = true := by
    intro t ht
    rw [hW1]
    exact isSome_setCells b _ _ _ (fun k hk => (s3 k hk).1) _ (hold t ht)
  have hf1 : ∀ t, t < n * 2 → W1.frozen? ⟨b, 0 + t, none⟩ = false := by
    intro t ht
    rw [hW1, World.frozen?_setCells]
    exact hfz t ht
  have hcl : ∀ ty, (Builtin.clear_ #[22] ty #[.slice (some ⟨b, (i + (n - j)) * 2, none⟩) (n - (i + (n - j))) (cap - (i + (n - j)))]).run Tryd.prog W1 = .ok (.tuple #[]) (W1.setCells b ((i + (n - j)) * 2) (List.replicate ((n - (i + (n - j))) * 2) (.string ⟨#[]⟩))) :=
    fun ty => clear_F W1 _ _ ty t22 (fun w => Tryd.zeroValue33 w) b _ _ _ (by omega) (fun t ht => by have := hc1 ((i + (n - j)) * 2 + t) (by omega); rwa [Nat.zero_add] at this) (fun t ht => by have := hf1 ((i + (n - j)) * 2 + t) (by omega); rwa [Nat.zero_add] at this)
  have hic : i ≤ cap := by omega
  have hjc : j ≤ cap := by omega
  have hroom : i + (n - j) ≤ cap := by omega
  have hW : Hide (W1 = w.drew.setCells b (0 + i * 2) news) := ⟨hW1⟩
  rw [← hnews]
  clear hnews hc1 hf1 hold hW1
  go_enter Tryd.func42, Tryd.ntmps42
  go_wp2_with fail
  go_region_law_o (refine step_append_room rfl (.tmp 22) (.tmp 25) 22 rfl 33 i0 2 t22 hi0 hz1 b 0 i cap (by simp [Act.eval, Act.put]) A (n - j) (cap - j) news (by simp [Act.eval, Act.put]) hlen hsrc s2 hroom s3 ?_; rw [← hW.out])
  go_wp2
  go_ret
  refine ⟨by rw [show n - (j - i) = i + (n - j) by omega]; rfl, ?_⟩
  rw [← hW.out, Nat.zero_add]
theorem copy_es {P : Program} (w : World) (dT sT ty elem : TypeId) (es : Nat) (b o dLen dCap : Nat) (a : Addr) (sLen sCap : Nat) (cs : List Value)
    (hu : P.underlying dT = some (.slice elem)) (hs : (P.info? elem).map (·.size) = some es) (hn : cs.length = Nat.min sLen dLen * es)
    (hsrc : ∀ j v, cs[j]? = some v → w.cell? (a.add j) = some v) (hc : ∀ j, j < cs.length → (w.cell? ⟨b, o + j, none⟩).isSome = true) (hf : ∀ j, j < cs.length → w.frozen? ⟨b, o + j, none⟩ = false) (h1 : ∀ v ∈ cs, v.oneCell' = true) :
    (Builtin.copy_ #[dT, sT] ty #[.slice (some ⟨b, o, none⟩) dLen dCap, .slice (some a) sLen sCap]).run P w = .ok (goInt (Nat.min sLen dLen)) (w.setCells b o cs) := by
  have hl := run_loadCells_list (P := P) w a cs hsrc
  have hst := run_storeCells_cells (P := P) b o cs 0 w (by simpa using hc) (by simpa using hf) h1
  cases hq : P.info? elem with
  | none => simp [hq] at hs
  | some i =>
    have hi : i.size = es := by simpa [hq] using hs
    simp [Builtin.copy_, run_underlying hu, Builtin.lenOf, Builtin.firstCells, sizeOf, typeInfo, hq, hi, ← hn, hl, hst]
/-- Where the second argument lies, and that it is another one's. -/
structure OneF (w : World) (b vb vc : Nat) (vs : List Value) : Prop where
  ne : vb ≠ b
  len : vs.length = 2
  cell : ∀ j v, vs[j]? = some v → w.cell? ⟨vb, 0 + j, none⟩ = some v
  one : ∀ v ∈ vs, v.oneCell' = true
  blk : ∃ cur E lo hi, w.heap[vb]? = some (.cells cur E (lo, hi)) ∧ hi ≤ lo
set_option maxHeartbeats 8000000 in
set_option maxRecDepth 1000000 in
/-- Insert of one file in the midst, where there is room. -/
theorem Tryd.insert_shift (w : World) (b cap n i vb vc : Nat) (cs vs : List Value) (hi : i < n) (hroom : n + 1 ≤ cap) (hcap : cap ≤ 9223372036854775807) (hl : cs.length = n * 2)
    (hcs : ∀ t v, cs[t]? = some v → w.cell? ⟨b, 0 + t, none⟩ = some v) (hsp : ∀ t, t < (n + 1) * 2 → (w.cell? ⟨b, 0 + t, none⟩).isSome = true) (hfz : ∀ t, t < (n + 1) * 2 → w.frozen? ⟨b, 0 + t, none⟩ = false)
    (h1 : ∀ v ∈ cs, v.oneCell' = true) (hv : OneF w b vb vc vs) (tB : TypeId) (kB : Nat) (hsb : w.shape? b = some (tB, kB)) (hkB : kB ≠ 0) :
    Calls Tryd.prog 38 #[.slice (some ⟨b, 0, none⟩) n cap, .int .i64 i, .slice (some ⟨vb, 0, none⟩) 1 vc] w fun e w' => e = .returned (.slice (some ⟨b, 0, none⟩) (n + 1) cap) ∧ w' = (w.drew.setCells b ((i + 1) * 2) (cs.drop (i * 2))).setCells b (i * 2) vs := by
  obtain ⟨i0, hi0, hz0, hz1, hz2⟩ := Tryd.infoF
  have t22 := Tryd.underlying22
  have mixed : Tryd.prog.follows .mixedOrders = true := by kernel_rfl
  obtain ⟨hne, hvl, hvs, h1v, cur, E, lo, hi', hblk, hlo⟩ := hv
  have hsz : (Tryd.prog.info? 33).map (·.size) = some 2 := by rw [hi0]; simp [hz1]
  have hsa : w.shape? vb = some (E, cur.size) := by unfold World.shape?; rw [hblk]
  have hfa : w.frozen? ⟨vb, 0, none⟩ = false := by unfold World.frozen?; rw [hblk]; simp; omega
  have hfe : w.frozen? ⟨vb, cur.size, none⟩ = false := by unfold World.frozen?; rw [hblk]; simp; omega
  have hov : ∀ lb cb, (callFunc 52 #[.slice (some ⟨vb, 0, none⟩) 1 vc, .slice (some ⟨b, (i + 1) * 2, none⟩) lb cb]).run Tryd.prog w = .ok (.value (.bool false)) w := fun lb cb => by
    rw [run_callFunc_extern Tryd.func52 (by kernel_rfl) (by kernel_rfl) (by kernel_rfl) (e := Extern.SlicesOverlaps.overlaps #[22, 22] #[4]) (by kernel_rfl),
      Lib.run_overlaps_apart w 22 4 33 t22 2 Tryd.sizeOf33 ⟨vb, 0, none⟩ ⟨b, (i + 1) * 2, none⟩ 1 vc lb cb hne E tB cur.size kB hsa hsb hkB hfa hfe]
    rfl
  have hdl : (cs.drop (i * 2)).length = (n - i) * 2 := by rw [List.length_drop, hl]; omega
  have hz2 : ¬ ((i : Int) = (n : Int)) := by omega
  have hw1 : IntKind.i64.wrap ((i : Int) + 1) = (i : Int) + 1 := by rw [IntKind.wrap_i64]; omega
  have hb1 : (0 : Int) ≤ (i : Int) + 1 := by omega
  have hin : i ≤ n := by omega
  have htn : ((i : Int) + 1).toNat = i + 1 := by omega
  have hb2 : ¬ (cap = i + 1) := by omega
  have hb3 : (i : Int) ≤ (n : Int) + 1 := by omega
  have hb4 : ¬ (cap = i) := by omega
  obtain ⟨W1, hW1⟩ : ∃ W1, W1 = w.drew.setCells b ((i + 1) * 2) (cs.drop (i * 2)) := ⟨_, rfl⟩
  have hcp1 : ∀ ty dc sc, (Builtin.copy_ #[22, 22] ty #[.slice (some ⟨b, (i + 1) * 2, none⟩) (n - i) dc, .slice (some ⟨b, i * 2, none⟩) (n + 1 - i) sc]).run Tryd.prog w.drew = .ok (goInt (Nat.min (n + 1 - i) (n - i))) W1 := fun ty dc sc => by
    rw [hW1]
    exact copy_es w.drew _ _ ty 33 2 b ((i + 1) * 2) (n - i) dc ⟨b, i * 2, none⟩ (n + 1 - i) sc (cs.drop (i * 2)) t22 hsz (by rw [hdl]; congr 1; simp only [Nat.min_def]; split <;> omega)
      (fun j v hj => by rw [Addr.add_lit]; have := hcs (i * 2 + j) v (by rwa [List.getElem?_drop] at hj); rwa [Nat.zero_add] at this)
      (fun j hj => by have := hsp ((i + 1) * 2 + j) (by omega); rwa [Nat.zero_add] at this) (fun j hj => by have := hfz ((i + 1) * 2 + j) (by omega); rwa [Nat.zero_add] at this) (fun v hv => h1 v (List.mem_of_mem_drop hv))
  have hsp1 : ∀ k, k < (n + 1) * 2 → (W1.cell? ⟨b, k, none⟩).isSome = true := fun k hk => by
    rw [hW1]
    exact isSome_setCells b _ _ _ (fun j hj => by have := hsp ((i + 1) * 2 + j) (by omega); rwa [Nat.zero_add] at this) _ (by have := hsp k hk; rwa [Nat.zero_add] at this)
  have hcp2 : ∀ (W : World), (∀ x, W.cell? x = W1.cell? x) → (∀ x, W.frozen? x = W1.frozen? x) → ∀ ty dc, (Builtin.copy_ #[22, 22] ty #[.slice (some ⟨b, i * 2, none⟩) (n + 1 - i) dc, .slice (some ⟨vb, 0, none⟩) 1 vc]).run Tryd.prog W = .ok (goInt (Nat.min 1 (n + 1 - i))) (W.setCells b (i * 2) vs) := fun W hWc hWf ty dc =>
    copy_es W _ _ ty 33 2 b (i * 2) (n + 1 - i) dc ⟨vb, 0, none⟩ 1 vc vs t22 hsz (by rw [hvl]; simp only [Nat.min_def]; split <;> omega)
      (fun j v hj => by
        rw [Addr.add_lit, hWc, hW1, World.cell?_setCells_out b _ _ _ _ (fun h _ => absurd h hne)]
        exact hvs j v hj)
      (fun j hj => by rw [hWc]; exact hsp1 _ (by omega)) (fun j hj => by rw [hWf, hW1, World.frozen?_setCells]; have := hfz (i * 2 + j) (by omega); rwa [Nat.zero_add] at this) h1v
  have hWH : Hide (W1 = w.drew.setCells b ((i + 1) * 2) (cs.drop (i * 2))) := ⟨hW1⟩
  clear hW1
  go_enter Tryd.func38, Tryd.ntmps38
  go_wp2_with (simp only [hov])
  go_region_law_o (refine step_copy_runI rfl _ _ 22 22 rfl _ _ (by simp [Act.eval, Act.put]) (by simp [Act.eval, Act.put]) (hcp1 _ _ _) ?_)
  go_wp2_with (at_builtin; refine wpList_copy_runI _ rfl _ _ 22 22 rfl _ _ rfl rfl (hcp2 _ (fun _ => rfl) (fun _ => rfl) _ _) ?_)
  go_ret
  exact ⟨rfl, by rw [← hWH.out]⟩
end Go.Proofs
namespace Go.Proofs
open Go.RowKit Go.Lib
set_option maxHeartbeats 8000000 in
set_option maxRecDepth 1000000 in
theorem Tryd.insert_end_room (w : World) (b cap n vb vc : Nat) (vs : List Value) (hroom : n + 1 ≤ cap) (hcap : cap ≤ 9223372036854775807)
    (hsp : ∀ t, t < 2 → (w.cell? ⟨b, n * 2 + t, none⟩).isSome = true) (hfz : ∀ t, t < 2 → w.frozen? ⟨b, n * 2 + t, none⟩ = false) (hv : OneF w b vb vc vs) :
    Calls Tryd.prog 38 #[.slice (some ⟨b, 0, none⟩) n cap, .int .i64 n, .slice (some ⟨vb, 0, none⟩) 1 vc] w fun e w' => e = .returned (.slice (some ⟨b, 0, none⟩) (n + 1) cap) ∧ w' = w.setCells b (n * 2) vs := by
  obtain ⟨i0, hi0, hz0, hz1, hz2⟩ := Tryd.infoF
  have t22 := Tryd.underlying22
  have mixed : Tryd.prog.follows .mixedOrders = true := by kernel_rfl
  obtain ⟨hne, hvl, hvs, h1v, cur, E, lo, hi', hblk, hlo⟩ := hv
  have hsrc : Src Tryd.prog i0.size 22 (.slice (some ⟨vb, 0, none⟩) 1 vc) 1 vs w := by
    rw [hz1]
    exact Src.ofSlice w t22 ⟨vb, 0, none⟩ 1 vc vs (by rw [hvl]) (fun j u hj => by rw [Addr.add_lit]; exact hvs j u hj) h1v
  have hrun : ∀ ty, (Builtin.append_ #[22, 22] ty #[.slice (some ⟨b, 0, none⟩) n cap, .slice (some ⟨vb, 0, none⟩) 1 vc]).run Tryd.prog w = .ok (.slice (some ⟨b, 0, none⟩) (n + 1) cap) (w.setCells b (n * 2) vs) := fun ty => by
    have := run_append_room_src w 22 22 ty 33 i0 t22 hi0 b 0 n cap _ 1 vs hsrc hroom (by rw [hz1, hvl, Nat.zero_add]; exact hsp) (by rw [hz1, hvl, Nat.zero_add]; exact hfz)
    rwa [hz1, Nat.zero_add] at this
  go_enter Tryd.func38, Tryd.ntmps38
  go_wp2_with (at_builtin; refine Lib.wpList_append_run _ rfl _ _ _ _ rfl _ _ rfl rfl _ _ (hrun _) ?_)
  go_ret
  exact ⟨rfl, rfl⟩
set_option maxHeartbeats 8000000 in
set_option maxRecDepth 1000000 in
theorem Tryd.insert_end_grow (w : World) (base : Option Addr) (cap n vb vc : Nat) (cs vs : List Value) (hnc : n ≤ cap) (hroom : cap < n + 1) (hbig : n ≤ 1099511627776) (hl : cs.length = n * 2) (hnil : base = none → n = 0 ∧ cap = 0)
    (hcs : ∀ a, base = some a → ∀ j v, cs[j]? = some v → w.cell? (a.add j) = some v) (hvl : vs.length = 2) (hvs : ∀ j v, vs[j]? = some v → w.cell? ⟨vb, 0 + j, none⟩ = some v) (h1v : ∀ v ∈ vs, v.oneCell' = true) :
    Calls Tryd.prog 38 #[.slice base n cap, .int .i64 n, .slice (some ⟨vb, 0, none⟩) 1 vc] w fun e w' => e = .returned (.slice (some ⟨w.heap.size, 0, none⟩) (n + 1) (grownCap w (n + 1) cap 33)) ∧
      w' = w.drew.alloc (.cells ((cs ++ vs).toArray ++ Builtin.zeroCells zF.cells (grownCap w (n + 1) cap 33 - (n + 1))) 33) := by
  obtain ⟨i0, hi0, hz0, hz1, hz2⟩ := Tryd.infoF
  have t22 := Tryd.underlying22
  have mixed : Tryd.prog.follows .mixedOrders = true := by kernel_rfl
  have hsrc : Src Tryd.prog i0.size 22 (.slice (some ⟨vb, 0, none⟩) 1 vc) 1 vs w := by
    rw [hz1]
    exact Src.ofSlice w t22 ⟨vb, 0, none⟩ 1 vc vs (by rw [hvl]) (fun j u hj => by rw [Addr.add_lit]; exact hvs j u hj) h1v
  have hold : (Builtin.firstCells i0.size n (.slice base n cap)).run Tryd.prog w.drew = .ok cs.toArray w.drew := by
    rw [hz1]
    cases base with
    | none =>
      obtain ⟨rfl, rfl⟩ := hnil rfl
      rw [List.length_eq_zero_iff.1 hl]
      exact run_firstCells_none w.drew 2 0 0 0
    | some a => exact run_firstCells_some w.drew 2 n a n cap cs hl (fun j v hj => hcs a rfl j v hj)
  have hrun : ∀ ty, (Builtin.append_ #[22, 22] ty #[.slice base n cap, .slice (some ⟨vb, 0, none⟩) 1 vc]).run Tryd.prog w = _ := fun ty =>
    run_append_grow_src w 22 22 ty 33 i0 _ t22 hi0 hz0 base n cap cs hold _ 1 vs hsrc hroom (by omega) (by rw [hz2]; exact growslice_fits hroom (by omega))
  go_enter Tryd.func38, Tryd.ntmps38
  cases base with
  | none =>
    obtain ⟨rfl, rfl⟩ := hnil rfl
    go_wp2_with (at_builtin; refine Lib.wpList_append_run _ rfl _ _ _ _ rfl _ _ rfl rfl _ _ (hrun _) ?_)
    go_ret
    exact ⟨rfl, rfl⟩
  | some a =>
    obtain ⟨ab, ao, asp⟩ := a
    go_wp2_with (at_builtin; refine Lib.wpList_append_run _ rfl _ _ _ _ rfl _ _ rfl rfl _ _ (hrun _) ?_)
    all_goals (go_ret; exact ⟨rfl, rfl⟩)
set_option maxHeartbeats 8000000 in
set_option maxRecDepth 1000000 in
theorem Tryd.insert_grow (w : World) (b cap n i vb vc : Nat) (cs vs : List Value) (hi : i < n) (hnc : n ≤ cap) (hroom : cap < n + 1) (hbig : n ≤ 1099511627776) (hl : cs.length = n * 2)
    (hcs : ∀ t v, cs[t]? = some v → w.cell? ⟨b, 0 + t, none⟩ = some v) (h1 : ∀ v ∈ cs, v.oneCell' = true)
    (hvl : vs.length = 2) (hvs : ∀ j v, vs[j]? = some v → w.cell? ⟨vb, 0 + j, none⟩ = some v) (h1v : ∀ v ∈ vs, v.oneCell' = true) :
    Calls Tryd.prog 38 #[.slice (some ⟨b, 0, none⟩) n cap, .int .i64 i, .slice (some ⟨vb, 0, none⟩) 1 vc] w fun e w' => e = .returned (.slice (some ⟨w.heap.size, 0, none⟩) (n + 1) (grownCap w (n + 1) cap 33)) ∧
      w' = (((w.alloc (.cells ((cs.take (i * 2)).toArray ++ Builtin.zeroCells zF.cells (n + 1 - i) ++ Builtin.zeroCells zF.cells (grownCap w (n + 1) cap 33 - (n + 1))) 33)).drew.setCells w.heap.size (i * 2) vs).drew).setCells w.heap.size ((i + 1) * 2) (cs.drop (i * 2)) := by
  obtain ⟨i0, hi0, hz0, hz1, hz2⟩ := Tryd.infoF
  have t22 := Tryd.underlying22
  have t3 := Tryd.underlying3
  have mixed : Tryd.prog.follows .mixedOrders = true := by kernel_rfl
  have hz2' : ¬ ((i : Int) = (n : Int)) := by omega
  have hz3 : (cap : Int) < (n : Int) + 1 := by omega
  have hsz : (Tryd.prog.info? 33).map (·.size) = some 2 := by rw [hi0]; simp [hz1]
  have hbw : b < w.heap.size := block_lt_of_cell (hcs 0 _ (List.getElem?_eq_getElem (by omega)))
  have hvw : vb < w.heap.size := block_lt_of_cell (hvs 0 _ (List.getElem?_eq_getElem (by omega)))
  have hkk : (n : Int) + 1 - (i : Int) = ((n + 1 - i : Nat) : Int) := by omega
  have hik : i + (n + 1 - i) = n + 1 := by omega
  have hold : (Builtin.firstCells i0.size i (.slice (some ⟨b, 0, none⟩) i cap)).run Tryd.prog w.drew = .ok (cs.take (i * 2)).toArray w.drew := by
    rw [hz1]
    exact run_firstCells_some w.drew 2 i ⟨b, 0, none⟩ i cap (cs.take (i * 2)) (by rw [List.length_take]; omega) (fun j v hj => by
      rw [Addr.add_lit]
      rw [List.getElem?_take] at hj
      split at hj
      · exact hcs j v hj
      · cases hj)
  have hrz : ∀ ty, (Builtin.append_ #[22, 3] ty #[.slice (some ⟨b, 0, none⟩) i cap, .int .i64 ((n : Int) + 1 - (i : Int))]).run Tryd.prog w =
      .ok (.slice (some ⟨w.heap.size, 0, none⟩) (n + 1) (grownCap w (n + 1) cap 33)) (w.drew.alloc (.cells ((cs.take (i * 2)).toArray ++ Builtin.zeroCells zF.cells (n + 1 - i) ++ Builtin.zeroCells zF.cells (grownCap w (n + 1) cap 33 - (n + 1))) 33)) := fun ty => by
    have h := Lib.run_append_grow_zeros w 22 3 ty 33 i0 _ .i64 .i64 t22 t3 hi0 hz0 (some ⟨b, 0, none⟩) i cap (cs.take (i * 2)) hold (n + 1 - i) (by omega) (by omega) (by omega) (by omega) (by rw [hz2]; omega) (by rw [hz2, hik]; exact growslice_fits hroom (by omega))
    rw [hik] at h
    rw [hkk]
    exact h
  obtain ⟨G, hG⟩ : ∃ G, G = grownCap w (n + 1) cap 33 := ⟨_, rfl⟩
  obtain ⟨ROW, hROW⟩ : ∃ ROW : Array Value, ROW = (cs.take (i * 2)).toArray ++ Builtin.zeroCells zF.cells (n + 1 - i) ++ Builtin.zeroCells zF.cells (G - (n + 1)) := ⟨_, rfl⟩
  rw [← hG] at hrz ⊢
  rw [← hROW] at hrz ⊢
  have hRl : (n + 1) * 2 ≤ ROW.size := by
    rw [hROW]
    simp [Builtin.zeroCells, Value.cells]
    omega
  obtain ⟨W1, hW1⟩ : ∃ W1, W1 = w.drew.alloc (.cells ROW 33) := ⟨_, rfl⟩
  rw [← hW1] at hrz
  have hN : ∀ j, j < (n + 1) * 2 → (W1.cell? ⟨w.heap.size, j, none⟩).isSome = true := fun j hj => by
    rw [hW1, World.cell?_alloc_at (w := w.drew) ROW _ w.heap.size j rfl, Array.getElem?_eq_getElem (by omega)]; rfl
  have hNf : ∀ j, W1.frozen? ⟨w.heap.size, j, none⟩ = false := fun j => by rw [hW1]; exact World.frozen?_alloc_at (w := w.drew) ROW _ w.heap.size j rfl
  have hOb : ∀ j v, w.cell? ⟨b, j, none⟩ = some v → W1.cell? ⟨b, j, none⟩ = some v := fun j v h => by rw [hW1, World.cell?_alloc_past (w := w.drew) _ b j hbw]; exact h
  have hOv : ∀ j v, w.cell? ⟨vb, j, none⟩ = some v → W1.cell? ⟨vb, j, none⟩ = some v := fun j v h => by rw [hW1, World.cell?_alloc_past (w := w.drew) _ vb j hvw]; exact h
  have hdl : (cs.drop (i * 2)).length = (n - i) * 2 := by rw [List.length_drop, hl]; omega
  have hbN : b ≠ w.heap.size := by omega
  have hcpA : ∀ (W : World), (∀ x, W.cell? x = W1.cell? x) → (∀ x, W.frozen? x = W1.frozen? x) → ∀ ty dc, (Builtin.copy_ #[22, 22] ty #[.slice (some ⟨w.heap.size, i * 2, none⟩) (n + 1 - i) dc, .slice (some ⟨vb, 0, none⟩) 1 vc]).run Tryd.prog W = .ok (goInt (Nat.min 1 (n + 1 - i))) (W.setCells w.heap.size (i * 2) vs) := fun W hWc hWf ty dc =>
    copy_es W _ _ ty 33 2 w.heap.size (i * 2) (n + 1 - i) dc ⟨vb, 0, none⟩ 1 vc vs t22 hsz (by rw [hvl]; simp only [Nat.min_def]; split <;> omega)
      (fun j v hj => by rw [Addr.add_lit, hWc]; exact hOv _ v (hvs j v hj))
      (fun j hj => by rw [hWc]; exact hN _ (by omega)) (fun j hj => by rw [hWf]; exact hNf _) h1v
  have hcpB : ∀ (W : World), (∀ x, W.cell? x = (W1.setCells w.heap.size (i * 2) vs).cell? x) → (∀ x, W.frozen? x = (W1.setCells w.heap.size (i * 2) vs).frozen? x) → ∀ ty dc sc, (Builtin.copy_ #[22, 22] ty #[.slice (some ⟨w.heap.size, (i + 1) * 2, none⟩) (n - i) dc, .slice (some ⟨b, i * 2, none⟩) (n - i) sc]).run Tryd.prog W = .ok (goInt (Nat.min (n - i) (n - i))) (W.setCells w.heap.size ((i + 1) * 2) (cs.drop (i * 2))) := fun W hWc hWf ty dc sc =>
    copy_es W _ _ ty 33 2 w.heap.size ((i + 1) * 2) (n - i) dc ⟨b, i * 2, none⟩ (n - i) sc (cs.drop (i * 2)) t22 hsz (by rw [hdl]; simp only [Nat.min_def]; split <;> omega)
      (fun j v hj => by
        rw [Addr.add_lit, hWc, World.cell?_setCells_out _ _ _ _ _ (fun h _ => absurd h hbN)]
        have := hcs (i * 2 + j) v (by rwa [List.getElem?_drop] at hj)
        rw [Nat.zero_add] at this
        exact hOb _ v this)
      (fun j hj => by rw [hWc]; exact isSome_setCells _ _ _ _ (fun t ht => hN _ (by omega)) _ (hN _ (by omega)))
      (fun j hj => by rw [hWf, World.frozen?_setCells]; exact hNf _) (fun v hv => h1 v (List.mem_of_mem_drop hv))
  have hGn : n + 1 ≤ G := by rw [hG]; exact grownCap_ge w _ _ _
  have hG63 : G ≤ 9223372036854775807 := by
    have := grownCap_le_maxLen w (n + 1) cap 33 (by unfold maxLen; omega)
    rw [← hG] at this
    unfold maxLen at this
    omega
  have hGi : ¬ (G = i) := by omega
  have hGim : ¬ (G = i + 1) := by omega
  have hci : ¬ (cap = i) := by omega
  subst hW1
  have hE1 : ∀ x, ((w.alloc (.cells ROW 33)).drew).cell? x = (w.drew.alloc (.cells ROW 33)).cell? x := fun x => rfl
  have hE2 : ∀ x, ((w.alloc (.cells ROW 33)).drew).frozen? x = (w.drew.alloc (.cells ROW 33)).frozen? x := fun x => rfl
  have hF1 : ∀ x, (((w.alloc (.cells ROW 33)).drew.setCells w.heap.size (i * 2) vs).drew).cell? x = ((w.drew.alloc (.cells ROW 33)).setCells w.heap.size (i * 2) vs).cell? x := fun x => rfl
  have hF2 : ∀ x, (((w.alloc (.cells ROW 33)).drew.setCells w.heap.size (i * 2) vs).drew).frozen? x = ((w.drew.alloc (.cells ROW 33)).setCells w.heap.size (i * 2) vs).frozen? x := fun x => rfl
  have hw1 : IntKind.i64.wrap ((i : Int) + 1) = (i : Int) + 1 := by rw [IntKind.wrap_i64]; omega
  have hb1 : (0 : Int) ≤ (i : Int) + 1 := by omega
  have hin : i ≤ n := by omega
  have htn : ((i : Int) + 1).toNat = i + 1 := by omega
  have hb3 : (i : Int) ≤ (n : Int) := by omega
  clear hkk hik hold hROW hG hRl
  go_enter Tryd.func38, Tryd.ntmps38
  go_wp2_with (first
    | (at_builtin; refine Lib.wpList_append_run _ rfl _ _ _ _ rfl _ _ rfl rfl _ _ (hrz _) ?_)
    | (at_builtin; refine wpList_copy_runI _ rfl _ _ 22 22 rfl _ _ rfl rfl (hcpA _ hE1 hE2 _ _) ?_)
    | (at_builtin; refine wpList_copy_runI _ rfl _ _ 22 22 rfl _ _ rfl rfl (hcpB _ (fun _ => rfl) (fun _ => rfl) _ _ _) ?_))
  go_region_law_o (refine step_copy_runI rfl _ _ 22 22 rfl (.slice (some ⟨w.heap.size, (i + 1) * 2, none⟩) (n - i) (G - (i + 1))) (.slice (some ⟨b, i * 2, none⟩) (n - i) (cap - i)) (by simp [Act.eval, Act.put]) (by simp [Act.eval, Act.put]) (hcpB _ hF1 hF2 3 (G - (i + 1)) (cap - i)) ?_)
  go_wp2
  go_ret
  exact ⟨rfl, rfl⟩
end Go.Proofs
