/- Package schema, part T: a map from numbers, made and looked up; Apply. -/
import Derived.Test.YthcphdgfdkgimaaSchS
import Derived.MapKept
set_option linter.unusedSimpArgs false
set_option linter.unusedVariables false
namespace Go.Proofs.Ythcphdgfdkgimaa
open Go.RowKit
/-- Block b is a map whose entries are es, in the order in which they came. -/
def MapI (w : World) (b : Nat) (es : List (Int × Value)) : Prop := ∃ m clock, w.heap[b]? = some (.map m clock) ∧ m.toList.map (fun e => (e.key, e.val)) = es.map (fun p => (Value.int .i64 p.1, p.2))
theorem MapI.new (W : World) : MapI (W.alloc (.map #[] 0)) W.heap.size [] := ⟨#[], 0, heap_alloc_new W _, rfl⟩
theorem MapI.keep {w w' : World} {b : Nat} {es : List (Int × Value)} (h : MapI w b es) (hb : Below w.heap.size w w') : MapI w' b es := by
  obtain ⟨m, clock, h1, h2⟩ := h
  exact ⟨m, clock, (hb.block b (Array.getElem?_eq_some_iff.1 h1).1).trans h1, h2⟩
def getI (es : List (Int × Value)) (k : Int) : Option Value := (es.find? (fun p => p.1 == k)).map (·.2)
theorem findNow_at (k : Int) : ∀ (m : List MapEntry) (es : List (Int × Value)) (i : Nat), m.map (fun e => (e.key, e.val)) = es.map (fun p => (Value.int .i64 p.1, p.2)) →
    ∃ r, Instr.findNow (.int .i64) (.int .i64 k) m i = some r ∧ r.map (·.2) = getI es k
  | [], [], i, _ => ⟨none, rfl, rfl⟩
  | [], _ :: _, i, h => by simp at h
  | _ :: _, [], i, h => by simp at h
  | e :: m, p :: es, i, h => by
    simp only [List.map_cons, List.cons.injEq, Prod.mk.injEq] at h
    obtain ⟨⟨h1, h2⟩, h3⟩ := h
    obtain ⟨r, hr1, hr2⟩ := findNow_at k m es (i + 1) h3
    by_cases hk : p.1 = k
    · refine ⟨some (i, e.val), ?_, ?_⟩
      · simp [Instr.findNow, h1, Instr.sameNow, hk]
      · simp [getI, List.find?_cons, hk, h2]
    · refine ⟨r, ?_, ?_⟩
      · have hk' : (k == p.1) = false := by simpa using fun h => hk h.symm
        simp [Instr.findNow, h1, Instr.sameNow, hk', hr1]
      · have hk' : (p.1 == k) = false := by simpa using hk
        rw [hr2]; simp [getI, List.find?_cons, hk']
theorem getI_none {es : List (Int × Value)} {k : Int} (h : es.all (fun p => p.1 != k) = true) : getI es k = none := by
  unfold getI
  rw [Option.map_eq_none_iff, List.find?_eq_none]
  intro p hp
  have := List.all_eq_true.1 h p hp
  simpa using this
theorem wpl_insert {P : Program} {ops : Array Oper} {rest : List Oper} {o : Oper} {a : Act} {Q : Exit → Act → World → Prop} {w0 W : World} {b B : Nat} {es : List (Int × Value)} (hg : o.guard = none) (m x y : Operand) (t kt et : TypeId) (ho : o.op = .insert t m x y)
    (ht : P.underlying t = some (.map kt et)) (hk : P.underlying kt = some (.int .i64)) (k : Int) (v : Value) (hm : a.eval m = .map (some b)) (hx : a.eval x = .int .i64 k) (hy : a.eval y = v) (hM : MapI W b es) (hf : es.all (fun p => p.1 != k) = true) (HB : Below B w0 W) (hb : B ≤ b)
    (h : ∀ w1, MapI w1 b (es ++ [(k, v)]) → Below B w0 w1 → wpList P ops Q rest (a.put o.dst undef) w1) : wpList P ops Q (o :: rest) a W := by
  obtain ⟨mm, clock, h1, h2⟩ := hM
  obtain ⟨r, hr1, hr2⟩ := findNow_at k mm.toList es 0 h2
  have hr : r = none := by
    rw [getI_none hf] at hr2
    cases r with
    | none => rfl
    | some x => simp at hr2
  subst hr
  have hrun : (Instr.mapUpdate t (.map (some b)) (.int .i64 k) v).run P W = .ok () { W with heap := W.heap.setIfInBounds b (.map (mm.push { key := .int .i64 k, val := v, born := clock }) (clock + 1)) } := by
    have hc : (Instr.checkKey false 10000 kt (.int .i64 k)).run P W = .ok () W := MapKept.run_checkKey (k := .int .i64 k) hk (by simp [MapKept.IsKey]) false 9999
    simp [Instr.mapUpdate, run_underlying ht, MapKept.run_getObj_map h1, hc, MapKept.run_findKey hk hr1, MapKept.run_setObj_map _ h1, Result.andThen]
  have hbl := (Array.getElem?_eq_some_iff.1 h1).1
  refine wpList_plain hg fun K' hK' => ?_
  unfold Oper.wp
  simp [execOp, ho, hm, hx, hy, hrun, Result.andThen]
  refine hK' _ _ (h _ ⟨mm.push { key := .int .i64 k, val := v, born := clock }, clock + 1, (MapKept.heap_set h1).1, by simp [h2]⟩ ?_)
  exact ⟨HB.os, HB.tape, HB.output, by simpa using HB.size, fun j hj => ((MapKept.heap_set h1).2 j (by omega)).trans (HB.block j hj)⟩
theorem wpl_look {P : Program} {ops : Array Oper} {rest : List Oper} {o : Oper} {a : Act} {Q : Exit → Act → World → Prop} {W : World} {b : Nat} {es : List (Int × Value)} (hg : o.guard = none) (m x : Operand) (t kt et : TypeId) (ho : o.op = .lookup t m x true)
    (ht : P.underlying t = some (.map kt et)) (hk : P.underlying kt = some (.int .i64)) (z : Value) (hz : (zeroValue et).run P W = .ok z W) (k : Int) (hm : a.eval m = .map (some b)) (hx : a.eval x = .int .i64 k) (hM : MapI W b es)
    (h : ∀ r, Hid (r = getI es k) → wpList P ops Q rest (a.put o.dst (.tuple #[r.getD z, .bool r.isSome])) W) : wpList P ops Q (o :: rest) a W := by
  obtain ⟨mm, clock, h1, h2⟩ := hM
  obtain ⟨r, hr1, hr2⟩ := findNow_at k mm.toList es 0 h2
  have hrun : (Instr.lookup t (.map (some b)) (.int .i64 k) true).run P W = .ok (.tuple #[(getI es k).getD z, .bool (getI es k).isSome]) W := by
    have hc : (Instr.checkKey mm.isEmpty 10000 kt (.int .i64 k)).run P W = .ok () W := MapKept.run_checkKey (k := .int .i64 k) hk (by simp [MapKept.IsKey]) _ 9999
    rw [← hr2]
    cases r with
    | none => simp [Instr.lookup, run_underlying ht, MapKept.run_getObj_map h1, hc, MapKept.run_findKey hk hr1, hz, Result.andThen]
    | some q => simp [Instr.lookup, run_underlying ht, MapKept.run_getObj_map h1, hc, MapKept.run_findKey hk hr1, Result.andThen]
  refine wpList_plain hg fun K' hK' => ?_
  unfold Oper.wp
  simp [execOp, ho, hm, hx, hrun, Result.andThen]
  exact hK' _ _ (h _ (Lib.hid rfl))
abbrev fnV (n : Nat) : Value := .func (.func n) #[] #[]
def kinds : List (Int × Value) := [(1, fnV 35), (2, fnV 36), (3, fnV 37), (4, fnV 38), (5, fnV 39), (6, fnV 40), (7, fnV 41)]
theorem sMethod {l : List Fld} {nx : Int} {c : Chg} (hl : l.length ≤ 900) (hn : 0 ≤ nx ∧ nx ≤ 100000000000) (hN : Nums l nx) (hs : c.ok) (hfs : fsok l) {f : Value} (h : getI kinds c.kind = some f) :
    ∃ n, f = fnV n ∧ n ∈ [35, 36, 37, 38, 39, 40, 41] ∧ ∀ (w : World) (b base : Nat), St w b base l nx → base ≤ b → Calls Try.prog n #[.pointer (some ⟨b, 0, none⟩), chgV c] w (RetX w b base (applyR l nx c)) := by
  have hc : c.kind = 1 ∨ c.kind = 2 ∨ c.kind = 3 ∨ c.kind = 4 ∨ c.kind = 5 ∨ c.kind = 6 ∨ c.kind = 7 := by
    apply Classical.byContradiction
    intro hno
    rw [getI_none (by simp [kinds]; omega)] at h
    cases h
  rcases hc with hk | hk | hk | hk | hk | hk | hk
  · rw [hk] at h; cases h
    exact ⟨_, rfl, by simp, fun w b base hst hbb => by rw [show applyR l nx c = addR l nx c by unfold applyR; rw [hk]; rfl]; exact sAdd b base l nx c w hst hbb hl hn hN hs.1⟩
  · rw [hk] at h; cases h
    exact ⟨_, rfl, by simp, fun w b base hst hbb => by rw [show applyR l nx c = oneR l nx c by unfold applyR; rw [hk]; rfl]; exact sDrop b base l nx c w hst hbb hl hk⟩
  · rw [hk] at h; cases h
    exact ⟨_, rfl, by simp, fun w b base hst hbb => by rw [show applyR l nx c = oneR l nx c by unfold applyR; rw [hk]; rfl]; exact sRename b base l nx c w hst hbb hl hN hk hs.1⟩
  · rw [hk] at h; cases h
    exact ⟨_, rfl, by simp, fun w b base hst hbb => by rw [show applyR l nx c = oneR l nx c by unfold applyR; rw [hk]; rfl]; exact sWiden b base l nx c w hst hbb hl hN hk⟩
  · rw [hk] at h; cases h
    exact ⟨_, rfl, by simp, fun w b base hst hbb => by rw [show applyR l nx c = oneR l nx c by unfold applyR; rw [hk]; rfl]; exact sMove b base l nx c w hst hbb hl hN hfs hk⟩
  · rw [hk] at h; cases h
    exact ⟨_, rfl, by simp, fun w b base hst hbb => by rw [show applyR l nx c = splitR l nx c by unfold applyR; rw [hk]; rfl]; exact sSplit b base l nx c w hst hbb hl hn hs⟩
  · rw [hk] at h; cases h
    exact ⟨_, rfl, by simp, fun w b base hst hbb => by rw [show applyR l nx c = joinR l nx c by unfold applyR; rw [hk]; rfl]; exact sJoin b base l nx c w hst hbb hl hn hs⟩
theorem apply_none {l : List Fld} {nx : Int} {c : Chg} (h : none = getI kinds c.kind) : applyR l nx c = bad 1 := by
  have hc : ¬ (c.kind = 1 ∨ c.kind = 2 ∨ c.kind = 3 ∨ c.kind = 4 ∨ c.kind = 5 ∨ c.kind = 6 ∨ c.kind = 7) := by
    rintro (hk | hk | hk | hk | hk | hk | hk) <;> (rw [hk] at h; cases h)
  unfold applyR
  simp only [beq_iff_eq]
  repeat (rw [if_neg (by omega)])
theorem Box.below {w w' : World} {b base : Nat} {vs : List Value} {t : TypeId} (h : Box w b vs t) (hb : Below base w w') (hl : b < base) : Box w' b vs t := (hb.block b hl).trans h
theorem bad_self {r : Int × List Fld × Int} {e : Int} (h : r = bad e) : r = bad r.1 := by rw [h]; rfl
theorem applyR_bad (l : List Fld) (nx : Int) (c : Chg) (h : (applyR l nx c).1 ≠ 0) : applyR l nx c = bad (applyR l nx c).1 := by
  have h1 : ∀ r, r = addR l nx c → r.1 ≠ 0 → r = bad r.1 := by
    intro r hr h; subst hr; unfold addR at h ⊢; repeat' split
    all_goals first | exact rfl | (exfalso; apply h; simp_all; done)
  have h2 : ∀ r f p, r = moveR l nx f p → r.1 ≠ 0 → r = bad r.1 := by
    intro r f p hr h; subst hr; unfold moveR at h ⊢; repeat' split
    all_goals first | exact rfl | (exfalso; apply h; simp_all; done)
  have h3 : ∀ r, r = oneR l nx c → r.1 ≠ 0 → r = bad r.1 := by
    intro r hr h
    by_cases hm : r = moveR l nx (getF l c.id) c.par
    · exact h2 r _ _ hm h
    · subst hr; unfold oneR at h hm ⊢; repeat' split
      all_goals first | exact rfl | (exfalso; apply h; simp_all; done) | (exfalso; apply hm; simp_all; done)
  have h4 : ∀ r, r = splitR l nx c → r.1 ≠ 0 → r = bad r.1 := by
    intro r hr h; subst hr; unfold splitR at h ⊢; repeat' split
    all_goals first | exact rfl | (exfalso; apply h; simp_all; done)
  have h5 : ∀ r, r = joinR l nx c → r.1 ≠ 0 → r = bad r.1 := by
    intro r hr h; subst hr; unfold joinR at h ⊢; repeat' split
    all_goals first | exact rfl | (exfalso; apply h; simp_all; done)
  generalize hr : applyR l nx c = r at *
  unfold applyR at hr
  repeat' split at hr
  all_goals first | exact h1 _ hr.symm h | exact h3 _ hr.symm h | exact h4 _ hr.symm h | exact h5 _ hr.symm h | exact bad_self hr.symm
set_option maxRecDepth 100000 in
set_option maxHeartbeats 3200000 in
theorem sApply (A : Option Addr) (cp : Nat) (l : List Fld) (nx : Int) (c : Chg) (w : World) (hr : RdF w A l) (hl : l.length ≤ 900) (hn : 0 ≤ nx ∧ nx ≤ 100000000000) (hN : Nums l nx) (hs : c.ok) (hfs : fsok l) :
    Calls Try.prog 14 #[.agg #[.slice A l.length cp, .int .i64 nx], chgV c] w (RetE w (applyR l nx c)) := by
  have hmm := @run_makeMap Try.prog
  go_enter Try.func14, Try.ntmps14
  go_upto_region 1 with (fail)
  refine wp_letter ?_
  intro W hW
  have h2 : Box W w.heap.size [.slice A l.length cp, .int .i64 nx] 31 := by subst hW; exact ((box_new _ _ _ rfl).alloc _).alloc _
  have h3 : Box W (w.heap.size + 1) c.enc 43 := by subst hW; exact (box_new _ _ _ (by simp)).alloc _
  have h4 : Box W (w.heap.size + 1 + 1) [.slice none 0 0, .int .i64 0] 31 := by subst hW; exact box_new _ _ _ (by simp)
  have hB : Below w.heap.size w W := by subst hW; exact (by repeat (first | exact below_refl _ | apply below_alloc | apply below_drew | apply below_drewN))
  clear hW
  have h2z := h2.lt; have h2c0 := h2.cell 0 _ rfl; have h2c1 := h2.cell 1 _ rfl; have h3z := h3.lt; have h3c0 := h3.cell 0 _ rfl; have h3c1 := h3.cell 1 _ rfl; have h3c2 := h3.cell 2 _ rfl; have h3c3 := h3.cell 3 _ rfl; have h3c4 := h3.cell 4 _ rfl; have h3c5 := h3.cell 5 _ rfl; have h3c6 := h3.cell 6 _ rfl; have h3c7 := h3.cell 7 _ rfl; have h4z := h4.lt; have h4c0 := h4.cell 0 _ rfl; have h4f0 := h4.frozen 0; have h4c1 := h4.cell 1 _ rfl; have h4f1 := h4.frozen 1
  have hM0 := MapI.new W
  have hB0 : Below W.heap.size W (W.alloc (.map #[] 0)) := (by repeat (first | exact below_refl _ | apply below_alloc | apply below_drew | apply below_drewN))
  go_upto_region 3 with (first
    | (refine wpl_insert rfl _ _ _ 71 3 68 rfl Try.underlying71 Try.underlying3 1 (fnV 35) rfl rfl rfl (es := kinds.take 0) hM0 (by rfl) hB0 (Nat.le_refl _) ?_; intro w1 hM1 hB1)
    | (refine wpl_insert rfl _ _ _ 71 3 68 rfl Try.underlying71 Try.underlying3 2 (fnV 36) rfl rfl rfl (es := kinds.take 1) hM1 (by rfl) hB1 (Nat.le_refl _) ?_; intro w2 hM2 hB2)
    | (refine wpl_insert rfl _ _ _ 71 3 68 rfl Try.underlying71 Try.underlying3 3 (fnV 37) rfl rfl rfl (es := kinds.take 2) hM2 (by rfl) hB2 (Nat.le_refl _) ?_; intro w3 hM3 hB3)
    | (refine wpl_insert rfl _ _ _ 71 3 68 rfl Try.underlying71 Try.underlying3 4 (fnV 38) rfl rfl rfl (es := kinds.take 3) hM3 (by rfl) hB3 (Nat.le_refl _) ?_; intro w4 hM4 hB4)
    | (refine wpl_insert rfl _ _ _ 71 3 68 rfl Try.underlying71 Try.underlying3 5 (fnV 39) rfl rfl rfl (es := kinds.take 4) hM4 (by rfl) hB4 (Nat.le_refl _) ?_; intro w5 hM5 hB5)
    | (refine wpl_insert rfl _ _ _ 71 3 68 rfl Try.underlying71 Try.underlying3 6 (fnV 40) rfl rfl rfl (es := kinds.take 5) hM5 (by rfl) hB5 (Nat.le_refl _) ?_; intro w6 hM6 hB6)
    | (refine wpl_insert rfl _ _ _ 71 3 68 rfl Try.underlying71 Try.underlying3 7 (fnV 41) rfl rfl rfl (es := kinds.take 6) hM6 (by rfl) hB6 (Nat.le_refl _) ?_; intro w7 hM7 hB7; have k2 := h2.keep hB7; have k3 := h3.keep hB7; have k4 := h4.keep hB7; have k2z := k2.lt; have k2c0 := k2.cell 0 _ rfl; have k2c1 := k2.cell 1 _ rfl; have k3z := k3.lt; have k3c0 := k3.cell 0 _ rfl; have k3c1 := k3.cell 1 _ rfl; have k3c2 := k3.cell 2 _ rfl; have k3c3 := k3.cell 3 _ rfl; have k3c4 := k3.cell 4 _ rfl; have k3c5 := k3.cell 5 _ rfl; have k3c6 := k3.cell 6 _ rfl; have k3c7 := k3.cell 7 _ rfl; have k4z := k4.lt; have k4c0 := k4.cell 0 _ rfl; have k4f0 := k4.frozen 0; have k4c1 := k4.cell 1 _ rfl; have k4f1 := k4.frozen 1)
    | (refine wpl_look (es := kinds) rfl _ _ 71 3 68 rfl Try.underlying71 Try.underlying3 .nilFunc rfl c.kind rfl rfl hM7 ?_; intro r hR))
  have hBw := below_of hB hB7
  clear hM0 hM1 hM2 hM3 hM4 hM5 hM6 hM7 hB0 hB1 hB2 hB3 hB4 hB5 hB6 h2c0 h2c1 h3c0 h3c1 h3c2 h3c3 h3c4 h3c5 h3c6 h3c7 h4c0 h4c1 h4f0 h4f1
  rcases r with _ | f
  · have hv := Lib.hid (apply_none (l := l) (nx := nx) hR.out)
    go_wp2
    exact end_cell_tmp (t := 31) rfl rfl rfl ((k4.set 0 _).set 1 _) Try.underlying31 rfl rfl rfl (ret_bad hv.out (below_set (below_set hBw (by first | omega | (simp; done) | (simp; omega)) _) (by first | omega | (simp; done) | (simp; omega)) _))
  · obtain ⟨n, rfl, hn7, hC⟩ := sMethod hl hn hN hs hfs hR.out.symm
    have hrw := hr.keep hBw
    go_upto_region 5 with (fail)
    go_cut [9] (fun p wc => ∃ b5, p = .pointer (some ⟨b5, 0, none⟩) ∧ St wc b5 w7.heap.size l nx ∧ w7.heap.size ≤ b5 ∧ Below w7.heap.size w7 wc)
    case first =>
      refine region_ord (fun w' => Below w7.heap.size w7 w') [8] (.q 0 (.q 1 (.q 2 (.q 3 (.g 4 (.q 5 (.q 6 (.g 7 (.g 8 .e))))))))) (by kernel_rfl) (by kernel_rfl) (fun _ _ d _ _ h => by cases d <;> exact h) (by repeat (first | exact below_refl _ | apply below_alloc | apply below_drew | apply below_drewN)) ?_
      repeat (refine ord_q (v := ?_) rfl (by rfl) ?_ ?_; rotate_left; (focus (intro w' hS; have s0 := cell_keep hS k2c0; have s1 := cell_keep hS k2c1; go_simp; exact rfl)); simp only [Act.put, List.setIfInBounds_toArray, List.set_cons_zero, List.set_cons_succ])
      refine ord_g (by rfl) (by rfl) ?_; intro K hK
      go_simp
      refine (sClone _ _ _ _ (hrw.keep (by repeat (first | exact below_refl _ | apply below_alloc | apply below_drew | apply below_drewN))) (by omega)).mono ?_
      rintro e wa ⟨v', rfl, HOa, hba⟩
      obtain ⟨A5, c5, rfl, hc5⟩ := HOa.slice
      have hba := below_of (by exact (by repeat (first | exact below_refl _ | apply below_alloc | apply below_drew | apply below_drewN)) : Below w7.heap.size w7 w7.drew) hba
      refine hK.out _ _ hba ?_
      repeat (refine ord_q (v := ?_) rfl (by rfl) ?_ ?_; rotate_left; (focus (intro w' hS; go_simp; exact rfl)); simp only [Act.put, List.setIfInBounds_toArray, List.set_cons_zero, List.set_cons_succ])
      refine ord_g (by rfl) (by rfl) ?_; intro K hK; go_simp; refine hK.out _ _ (below_alloc hba _) ?_
      refine ord_l (by rfl) rfl (by rfl) ?_; intro K hK; go_simp; refine hK.out _ _ ?_
      refine ord_e ?_
      go_wp2
      go_meet
      case rel => exact ⟨_, rfl, ⟨_, box_new _ _ _ rfl, HOa.kept (below_alloc (below_refl _) _)⟩, hba.size, below_alloc hba _⟩
    case rest =>
      obtain ⟨b5, rfl, hst, hb5, HBc⟩ := hcut
      have m3 := k3.keep HBc
      have m4 := k4.keep HBc
      have hBc := below_of hBw HBc
      clear k2c0 k2c1 k3c0 k3c1 k3c2 k3c3 k3c4 k3c5 k3c6 k3c7 k4c0 k4c1 k4f0 k4f1
      have m3z := m3.lt; have m3c0 := m3.cell 0 _ rfl; have m3c1 := m3.cell 1 _ rfl; have m3c2 := m3.cell 2 _ rfl; have m3c3 := m3.cell 3 _ rfl; have m3c4 := m3.cell 4 _ rfl; have m3c5 := m3.cell 5 _ rfl; have m3c6 := m3.cell 6 _ rfl; have m3c7 := m3.cell 7 _ rfl; have m4z := m4.lt; have m4c0 := m4.cell 0 _ rfl; have m4f0 := m4.frozen 0; have m4c1 := m4.cell 1 _ rfl; have m4f1 := m4.frozen 1
      simp only [List.mem_cons, List.not_mem_nil, or_false] at hn7
      have hs8 : w7.heap.size ≤ wc.heap.size := HBc.size
      rcases hn7 with rfl | rfl | rfl | rfl | rfl | rfl | rfl
      all_goals go_upto_region 7 with ((with_reducible refine (hC _ _ _ hst hb5).mono ?_); rintro e w8 ⟨rfl, hst8, hB8⟩)
      all_goals
        have n4 := m4.below hB8 (by first | omega | (simp; done) | (simp; omega))
        have hBe := hBc.trans (hB8.mono (by omega))
        clear m3c0 m3c1 m3c2 m3c3 m3c4 m3c5 m3c6 m3c7 m4c0 m4c1 m4f0 m4f1
        have n4z := n4.lt; have n4c0 := n4.cell 0 _ rfl; have n4f0 := n4.frozen 0; have n4c1 := n4.cell 1 _ rfl; have n4f1 := n4.frozen 1
        by_cases h0 : (applyR l nx c).1 = 0
        · obtain ⟨v9, nb, HO9⟩ := hst8 h0
          have hlr : (applyR l nx c).2.1.length ≤ 902 := by have := (applyR_grows l nx c).1; omega
          obtain ⟨A9, c9, rfl, hc9, hr9, hf9⟩ := HO9.rd Fld.len (by omega)
          have h0' : ((applyR l nx c).1 != 0) = false := by rw [h0]; rfl
          have h0h := Lib.hid h0
          clear h0 hst8
          have nbz := nb.lt; have nbc0 := nb.cell 0 _ rfl; have nbc1 := nb.cell 1 _ rfl
          go_wp2
          exact end_cell_tmp (t := 31) rfl rfl rfl ((n4.set 0 _).set 1 _) Try.underlying31 rfl rfl rfl ⟨A9, c9, by rw [h0h.out]; rfl, hc9, (hr9.far hf9 (by show _ < w7.heap.size; omega) _).far hf9 (by show _ < w7.heap.size; omega) _, hf9.le (by omega), below_set (below_set hBe (by first | omega | (simp; done) | (simp; omega)) _) (by first | omega | (simp; done) | (simp; omega)) _⟩
        · have h0' : ((applyR l nx c).1 != 0) = true := by simpa using h0
          have hbd := Lib.hid (applyR_bad l nx c h0)
          clear hst8 h0
          go_wp2
          exact end_cell_tmp (t := 31) rfl rfl rfl ((n4.set 0 _).set 1 _) Try.underlying31 rfl rfl rfl (ret_bad hbd.out (below_set (below_set hBe (by first | omega | (simp; done) | (simp; omega)) _) (by first | omega | (simp; done) | (simp; omega)) _))
end Go.Proofs.Ythcphdgfdkgimaa
