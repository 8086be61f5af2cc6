/- Package schema, part F: plus. -/
import Derived.Test.YthcphdgfdkgimaaSchE
set_option linter.unusedSimpArgs false
set_option linter.unusedVariables false
namespace Go.Proofs.Ythcphdgfdkgimaa
open Go.RowKit
theorem wp_pushg {P : Program} {o : Oper} {a : Act} {K : Act → World → Prop} {Q : Exit → Act → World → Prop} {α : Type} {enc : α → List Value} {sz : Nat} {W : World} {l : List α} (x : α) {base g : Nat} {v : Value} (hs : ∀ x, (enc x).length = sz) (h1 : (enc x).all (fun u => u.oneCell') = true)
    (s y : Operand) (t e : TypeId) (z : Value) (bytes : Nat) (ho : o.op = .call { callee := .builtin .append, args := #[s, y], argTypes := #[t, t] })
    (ht : P.underlying t = some (.slice e)) (hinfo : (P.info? e).map (fun i => (i.zero, i.size, i.bytes)) = some (some z, sz, bytes)) (hz : z.cells.size = sz) (hs0 : 0 < sz) (hb0 : 0 < bytes)
    (hsv : a.eval s = v) (hy : a.eval y = .slice (some ⟨g, 0, Option.none⟩) 1 1) (hbox : Box W g (enc x) e) (HO : Own enc sz W base e v l) (hbase : base ≤ W.heap.size) (hl : (l.length + 1) * bytes ≤ 140737488355328)
    (h : ∀ A1 c1 w1, Own enc sz w1 base e (.slice A1 (l.length + 1) c1) (l ++ [x]) → W.grownBy w1 v.ownBlock → ((Value.slice A1 (l.length + 1) c1).ownBlock = v.ownBlock ∨ (Value.slice A1 (l.length + 1) c1).ownBlock = some W.heap.size) → K (a.put o.dst (.slice A1 (l.length + 1) c1)) w1) : o.wp P a W K Q := by
  obtain ⟨i0, hi, hzz⟩ := Option.map_eq_some_iff.1 hinfo
  simp only [Prod.mk.injEq] at hzz
  obtain ⟨hz0, hz1, hz2⟩ := hzz
  have hlen : l.length + 1 ≤ 140737488355328 := Nat.le_trans (Nat.le_mul_of_pos_right _ hb0) hl
  obtain ⟨v1, w1, hr2, hown, hg, _, hblk⟩ := run_append_own_at (P := P) (w := W) base t o.type e i0 z sz bytes ht hi hz0 hz1 hz2 hz hs0 v l.length (l.flatMap enc) HO ⟨g, 0, Option.none⟩ 1 1 (enc x) (by rw [hs]; simp)
    (fun j u hj => by rw [show ((⟨g, 0, Option.none⟩ : Addr).add j) = ⟨g, j, Option.none⟩ by unfold Addr.add; split <;> simp_all]; exact hbox.cell j u hj) (one_enc h1) (by simp only [maxLen]; omega) hl hbase
  have HO1 : Own enc sz w1 base e v1 (l ++ [x]) := by unfold Own; simpa using hown
  obtain ⟨A1, c1, rfl, _⟩ := HO1.slice
  rw [List.length_append, List.length_singleton] at HO1 hr2 hblk
  unfold Oper.wp execOp
  simp only [ho, resolve, invoke, builtin, Sem.run_bind, Sem.run_pure, Result.andThen_ok, List.map_toArray, List.map_cons, List.map_nil, hsv, hy, hr2]
  exact h A1 c1 w1 HO1 hg hblk
/-- The state that is changed: its block b; its row begins at block base or behind it. -/
def StV (w : World) (b base : Nat) (v : Value) (l : List Fld) (nx : Int) : Prop := Box w b [v, .int .i64 nx] 75 ∧ Own Fld.enc 4 w base 53 v l
def St (w : World) (b base : Nat) (l : List Fld) (nx : Int) : Prop := ∃ v, StV w b base v l nx
/-- Every old block but the state's and its row's is as it was; the new row lies in the old one's block or in a new one. -/
def KeptBut (w w' : World) (b : Nat) (v v' : Value) : Prop := (∀ k, k < w.heap.size → k ≠ b → some k ≠ v.ownBlock → w'.heap[k]? = w.heap[k]?) ∧ (∀ k, v'.ownBlock = some k → v.ownBlock = some k ∨ w.heap.size ≤ k) ∧ w.heap.size ≤ w'.heap.size
theorem KeptBut.box {w w' : World} {b k : Nat} {v v' : Value} {vs : List Value} {t : TypeId} (h : KeptBut w w' b v v') (hb : Box w k vs t) (h1 : k ≠ b) (h2 : some k ≠ v.ownBlock) : Box w' k vs t ∧ some k ≠ v'.ownBlock :=
  ⟨(h.1 k hb.lt h1 h2).trans hb, fun e => (h.2.1 k e.symm).elim (fun q => h2 q.symm) (fun q => by have := hb.lt; omega)⟩
def RetM (w0 : World) (b base : Nat) (v : Value) (l : List Fld) (nx : Int) (u : Value) (e : Ending) (w' : World) : Prop := e = .returned u ∧ ∃ v', StV w' b base v' l nx ∧ KeptBut w0 w' b v v' ∧ Below base w0 w'
set_option maxRecDepth 100000 in
set_option maxHeartbeats 1600000 in
theorem sPlus (b base : Nat) (v : Value) (l : List Fld) (nx : Int) (nm : ByteArray) (ty par : Int) (w : World) (hst : StV w b base v l nx) (hbb : base ≤ b) (hl : l.length ≤ 1000) (hn : 0 ≤ nx ∧ nx ≤ 1000000000000) :
    Calls Try.prog 58 #[.pointer (some ⟨b, 0, none⟩), .string nm, .int .i64 ty, .int .i64 par] w (RetM w b base v (plusR l nx ⟨0, nm, ty, par⟩) (nx + 1) (.tuple #[])) := by
  obtain ⟨hb0, HO⟩ := hst
  obtain ⟨Av, cv, rfl, hcv⟩ := HO.slice
  have hbw := hb0.lt
  go_enter Try.func58, Try.ntmps58
  go_upto_region 0 with (fail)
  refine region_ord (fun w' => Box w' b [.slice Av l.length cv, .int .i64 nx] 75) [20] (.q 0 (.q 1 (.q 2 (.q 3 (.q 4 (.q 5 (.q 6 (.q 7 (.q 8 (.q 9 (.q 10 (.q 11 (.q 12 (.q 13 (.q 14 (.g 15 (.g 16 (.q 17 (.q 18 (.q 19 (.g 20 .e))))))))))))))))))))) (by kernel_rfl) (by kernel_rfl) (fun _ _ d _ _ h => by cases d <;> exact h) (hb0.keep (by repeat (first | exact below_refl _ | apply below_alloc | apply below_drew | apply below_drewN))) ?_
  (repeat (refine ord_q (v := ?_) rfl (by rfl) ?_ ?_; rotate_left; (focus (intro w' hS; have s0 := hS.cell 0 _ rfl; have s1 := hS.cell 1 _ rfl; go_simp; exact rfl)); simp only [Act.put, List.setIfInBounds_toArray, List.set_cons_zero, List.set_cons_succ]))
  refine ord_g (by rfl) (by rfl) ?_; intro K hK; go_simp; refine hK.out _ _ (hb0.keep (by repeat (first | exact below_refl _ | apply below_alloc | apply below_drew | apply below_drewN))) ?_
  refine ord_g (by rfl) (by rfl) ?_; intro K hK
  refine wp_pushg (⟨nx, nm, ty, par⟩ : Fld) (enc := Fld.enc) Fld.len rfl _ _ 29 53 _ 40 (by rfl) Try.underlying29 infoF rfl (by omega) (by omega) (by rfl) (by rfl) (g := w.heap.size) (box_new _ _ _ (by simp)) (HO.kept (by repeat (first | exact below_refl _ | apply below_alloc | apply below_drew | apply below_drewN))) (by first | omega | (simp; omega)) (by omega) ?_
  intro A1 c1 w1 HO1 hg1 hblk
  have k0 := (hb0.keep (by repeat (first | exact below_refl _ | apply below_alloc | apply below_drew | apply below_drewN))).grown hg1 (HO.ne_type hb0 (by decide))
  refine hK.out _ _ k0 ?_
  (repeat (refine ord_q (v := ?_) rfl (by rfl) ?_ ?_; rotate_left; (focus (intro w' hS; have s0 := hS.cell 0 _ rfl; have s1 := hS.cell 1 _ rfl; go_simp; exact rfl)); simp only [Act.put, List.setIfInBounds_toArray, List.set_cons_zero, List.set_cons_succ]))
  have k0z := k0.lt; have k0c0 := k0.cell 0 _ rfl; have k0f0 := k0.frozen 0; have k0c1 := k0.cell 1 _ rfl; have k0f1 := k0.frozen 1
  refine ord_l (by rfl) rfl (by rfl) ?_; intro K hK; go_simp; refine hK.out _ _ ?_
  refine ord_e ?_
  go_wp2
  have hne := HO1.ne_type k0 (by decide)
  have hB1 : Below base w w1 := ((by exact (by repeat (first | exact below_refl _ | apply below_alloc | apply below_drew | apply below_drewN)) : Below w.heap.size w _).mono (by omega)).grown hg1 (by first | omega | (simp; omega)) HO.base
  refine bodyPost_end (results_none rfl _ _ _) rfl ?_
  refine ⟨rfl, _, ⟨(k0.set 0 _).set 1 _, (HO1.far hne _).far hne _⟩, ⟨fun k hk h1 h2 => ?_, fun k hk => ?_, ?_⟩, (hB1.setCell hbb _).setCell hbb _⟩
  · rw [Below.heap_setCell _ _ _ _ h1, Below.heap_setCell _ _ _ _ h1, hg1.block k (by first | omega | (simp; omega)) h2]
    exact (by exact (by repeat (first | exact below_refl _ | apply below_alloc | apply below_drew | apply below_drewN)) : Below w.heap.size w _).block k hk
  · rcases hblk with h | h
    · exact .inl (h.symm.trans hk)
    · rw [h] at hk; right; injection hk with hk; rw [← hk]; first | omega | (simp; done) | (simp; omega)
  · have := hg1.size; simp at this ⊢; omega
end Go.Proofs.Ythcphdgfdkgimaa
