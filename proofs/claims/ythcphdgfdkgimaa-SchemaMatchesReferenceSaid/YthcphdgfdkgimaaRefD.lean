/- The references of fenlandref06, part D. -/
import Derived.Test.YthcphdgfdkgimaaRefC
import Derived.Deep.DeepCutAuto
set_option linter.unusedSimpArgs false
set_option linter.unusedVariables false
namespace Go.Proofs.Ythcphdgfdkgimaa
open Go.RowKit
def plusR (l : List Fld) (nx : Int) (f : Fld) : List Fld := l ++ [⟨nx, f.name, f.ty, f.par⟩]
set_option maxRecDepth 100000 in
set_option maxHeartbeats 400000 in
theorem rPlus (A : Option Addr) (c : Nat) (l : List Fld) (nx : Int) (f : Fld) (w : World) (hr : RdF w A l) (hl : l.length ≤ 1000) (hn0 : -1000000000000 ≤ nx) (hn1 : nx ≤ 1000000000000) :
    Calls Try.prog 66 #[.agg #[.slice A l.length c, .int .i64 nx], fldV f] w (RetS w (plusR l nx f) (nx + 1)) := by
  go_enter Try.func66, Try.ntmps66
  go_wp2
  refine wp_letter ?_
  intro W hW
  have h0 : Box W w.heap.size [.slice A l.length c, .int .i64 nx] 31 := by subst hW; exact ((box_new _ _ _ rfl).alloc _).alloc _
  have h1 : Box W (w.heap.size + 1) [.int .i64 nx, .string f.name, .int .i64 f.ty, .int .i64 f.par] 53 := by subst hW; exact (box_new _ _ _ (by simp)).alloc _
  have h2 : Box W (w.heap.size + 1 + 1) [.slice none 0 0, .int .i64 0] 31 := by subst hW; exact box_new _ _ _ (by simp)
  have HB : Below w.heap.size w W := by subst hW; exact (by repeat (first | exact below_refl _ | apply below_alloc | apply below_drew | apply below_drewN))
  clear hW
  have hz0 := h0.lt
  have hz1 := h1.lt
  have hz2 := h2.lt
  have c0 := h0.cell 0 _ rfl
  have c1 := h0.cell 1 _ rfl
  go_cut [5] (fun p wr => ∃ (b : Nat) (v : Value), p = .pointer (some ⟨b, 0, none⟩) ∧ w.heap.size + 1 + 1 < b ∧ Below w.heap.size w wr ∧ Box wr (w.heap.size + 1) [.int .i64 nx, .string f.name, .int .i64 f.ty, .int .i64 f.par] 53 ∧ Box wr (w.heap.size + 1 + 1) [.slice none 0 0, .int .i64 0] 31 ∧ Box wr b [v, .int .i64 (IntKind.i64.wrap (nx + 1))] 31 ∧ Own Fld.enc 4 wr (w.heap.size + 1 + 1 + 1) 53 v l ∧ some b ≠ v.ownBlock)
  case first =>
    refine region_ord (fun w' => Below W.heap.size W w') [9] (.q 0 (.q 1 (.q 2 (.q 4 (.q 5 (.two 3 8 (.two 6 8 (.q 7 (.g 8 (.g 9 .e))) (.g 6 (.q 7 (.g 9 .e)))) (.g 3 (.g 6 (.q 7 (.g 9 .e)))))))))) (by kernel_rfl) (by kernel_rfl) (fun _ _ d _ _ h => by cases d <;> exact h) (by repeat (first | exact below_refl _ | apply below_alloc | apply below_drew | apply below_drewN)) ?_
    repeat (refine ord_q (v := ?_) rfl (by rfl) ?_ ?_; rotate_left; (focus (intro w' hS; have s0 := cell_keep hS c0; have s1 := cell_keep hS c1; go_simp; exact rfl)); simp only [Act.put, List.setIfInBounds_toArray, List.set_cons_zero, List.set_cons_succ])
    refine ord_two rfl rfl (by rfl) (by rfl) ?_ ?_
    · intro K hK; go_simp; refine hK.out _ _ (by repeat (first | exact below_refl _ | apply below_alloc | apply below_drew | apply below_drewN)) ?_
      refine ord_two rfl rfl (by rfl) (by rfl) ?_ ?_
      · intro K hK
        refine wp_append_rd (l0 := []) (l := l) (enc := Fld.enc) Fld.len (fun _ => rfl) _ _ 29 53 _ 40 (by rfl) Try.underlying29 infoF rfl (by omega) (by omega) (by rfl) (by rfl) ((Own.lit Fld.enc 4 _ (base := w.heap.size + 1 + 1 + 1) _ (by first | omega | (simp; done) | (simp; omega)) (by first | omega | (simp; done) | (simp; omega)))) ((hr.keep HB).keep (by repeat (first | exact below_refl _ | apply below_alloc | apply below_drew | apply below_drewN))) (by first | omega | (simp; done) | (simp; omega)) (by first | omega | (simp; done) | (simp; omega)) ?_
        intro A1 c1 w1 HO1 hg1
        simp only [List.length_nil, Nat.zero_add, List.nil_append] at HO1
        have hbA := (by exact (by repeat (first | exact below_refl _ | apply below_alloc | apply below_drew | apply below_drewN)) : Below W.heap.size W _).grown hg1 (by first | omega | (simp; done) | (simp; omega)) (by simp [Value.ownBlock])
        have k1 := (h1.keep (by repeat (first | exact below_refl _ | apply below_alloc | apply below_drew | apply below_drewN))).grown hg1 (by simp [Value.ownBlock]; omega)
        have k2 := (h2.keep (by repeat (first | exact below_refl _ | apply below_alloc | apply below_drew | apply below_drewN))).grown hg1 (by simp [Value.ownBlock]; omega)
        refine hK.out _ _ hbA ?_
        repeat (refine ord_q (v := ?_) rfl (by rfl) ?_ ?_; rotate_left; (focus (intro w' hS; go_simp; exact rfl)); simp only [Act.put, List.setIfInBounds_toArray, List.set_cons_zero, List.set_cons_succ])
        refine ord_g (by rfl) (by rfl) ?_; intro K hK; go_simp; refine hK.out _ _ (below_alloc hbA _) ?_
        refine ord_l (by rfl) rfl (by rfl) ?_; intro K hK; go_simp; refine hK.out _ _ ?_
        refine ord_e ?_
        go_wp2
        go_meet
        case rel => exact ⟨_, _, rfl, by have := hbA.size; omega, below_of HB (below_alloc hbA _), k1.alloc _, k2.alloc _, box_new _ _ _ rfl, HO1.kept (below_alloc (below_refl _) _), (HO1.kept (below_alloc (below_refl _) _)).ne_type (box_new _ [.int .i64 0] 31 rfl) (by decide)⟩
      · intro K hK; go_simp; refine hK.out _ _ (by repeat (first | exact below_refl _ | apply below_alloc | apply below_drew | apply below_drewN)) ?_
        refine ord_g (by rfl) (by rfl) ?_; intro K hK
        refine wp_append_rd (l0 := []) (l := l) (enc := Fld.enc) Fld.len (fun _ => rfl) _ _ 29 53 _ 40 (by rfl) Try.underlying29 infoF rfl (by omega) (by omega) (by rfl) (by rfl) ((Own.lit Fld.enc 4 W (base := w.heap.size + 1 + 1 + 1) 53 (g := W.heap.size) (by first | omega | (simp; done) | (simp; omega)) (by first | omega | (simp; done) | (simp; omega))).kept (by repeat (first | exact below_refl _ | apply below_alloc | apply below_drew | apply below_drewN))) ((hr.keep HB).keep (by repeat (first | exact below_refl _ | apply below_alloc | apply below_drew | apply below_drewN))) (by first | omega | (simp; done) | (simp; omega)) (by first | omega | (simp; done) | (simp; omega)) ?_
        intro A1 c1 w1 HO1 hg1
        simp only [List.length_nil, Nat.zero_add, List.nil_append] at HO1
        have hbA := (by exact (by repeat (first | exact below_refl _ | apply below_alloc | apply below_drew | apply below_drewN)) : Below W.heap.size W _).grown hg1 (by first | omega | (simp; done) | (simp; omega)) (by simp [Value.ownBlock])
        have k1 := (h1.keep (by repeat (first | exact below_refl _ | apply below_alloc | apply below_drew | apply below_drewN))).grown hg1 (by simp [Value.ownBlock]; omega)
        have k2 := (h2.keep (by repeat (first | exact below_refl _ | apply below_alloc | apply below_drew | apply below_drewN))).grown hg1 (by simp [Value.ownBlock]; omega)
        have k3 := ((box_new (W.alloc (.cells #[] 53)) [.slice none 0 0, .int .i64 0] 31 (b := W.heap.size + 1) (by simp)).keep (by repeat (first | exact below_refl _ | apply below_alloc | apply below_drew | apply below_drewN))).grown hg1 (by simp [Value.ownBlock])
        refine hK.out _ _ hbA ?_
        repeat (refine ord_q (v := ?_) rfl (by rfl) ?_ ?_; rotate_left; (focus (intro w' hS; go_simp; exact rfl)); simp only [Act.put, List.setIfInBounds_toArray, List.set_cons_zero, List.set_cons_succ])
        have x0 := k3.cell 0 _ rfl
        have x1 := k3.cell 1 _ rfl
        have x2 := k3.frozen 0
        have x3 := k3.frozen 1
        have hz3 := k3.lt
        refine ord_l (by rfl) rfl (by rfl) ?_; intro K hK; go_simp; refine hK.out _ _ ?_
        refine ord_e ?_
        go_wp2
        go_meet
        case rel => exact ⟨_, _, rfl, by have := hbA.size; omega, below_of HB (below_set (below_set hbA (by first | omega | (simp; done) | (simp; omega)) _) (by first | omega | (simp; done) | (simp; omega)) _), (k1.far (by first | omega | (simp; done) | (simp; omega)) _).far (by first | omega | (simp; done) | (simp; omega)) _, (k2.far (by first | omega | (simp; done) | (simp; omega)) _).far (by first | omega | (simp; done) | (simp; omega)) _, (k3.set 0 _).set 1 _, (HO1.far (HO1.ne_type k3 (by decide)) _).far (HO1.ne_type k3 (by decide)) _, HO1.ne_type k3 (by decide)⟩
    · intro K hK; go_simp; refine hK.out _ _ (by repeat (first | exact below_refl _ | apply below_alloc | apply below_drew | apply below_drewN)) ?_
      refine ord_g (by rfl) (by rfl) ?_; intro K hK; go_simp; refine hK.out _ _ (by repeat (first | exact below_refl _ | apply below_alloc | apply below_drew | apply below_drewN)) ?_
      refine ord_g (by rfl) (by rfl) ?_; intro K hK
      refine wp_append_rd (l0 := []) (l := l) (enc := Fld.enc) Fld.len (fun _ => rfl) _ _ 29 53 _ 40 (by rfl) Try.underlying29 infoF rfl (by omega) (by omega) (by rfl) (by rfl) ((Own.lit Fld.enc 4 (W.alloc (.cells #[.slice none 0 0, .int .i64 0] 31)) (base := w.heap.size + 1 + 1 + 1) 53 (g := W.heap.size + 1) (by first | omega | (simp; done) | (simp; omega)) (by first | omega | (simp; done) | (simp; omega))).kept (by repeat (first | exact below_refl _ | apply below_alloc | apply below_drew | apply below_drewN))) ((hr.keep HB).keep (by repeat (first | exact below_refl _ | apply below_alloc | apply below_drew | apply below_drewN))) (by first | omega | (simp; done) | (simp; omega)) (by first | omega | (simp; done) | (simp; omega)) ?_
      intro A1 c1 w1 HO1 hg1
      simp only [List.length_nil, Nat.zero_add, List.nil_append] at HO1
      have hbA := (by exact (by repeat (first | exact below_refl _ | apply below_alloc | apply below_drew | apply below_drewN)) : Below W.heap.size W _).grown hg1 (by first | omega | (simp; done) | (simp; omega)) (by simp [Value.ownBlock])
      have k1 := (h1.keep (by repeat (first | exact below_refl _ | apply below_alloc | apply below_drew | apply below_drewN))).grown hg1 (by simp [Value.ownBlock]; omega)
      have k2 := (h2.keep (by repeat (first | exact below_refl _ | apply below_alloc | apply below_drew | apply below_drewN))).grown hg1 (by simp [Value.ownBlock]; omega)
      have k3 := ((box_new W [.slice none 0 0, .int .i64 0] 31 rfl).keep (by repeat (first | exact below_refl _ | apply below_alloc | apply below_drew | apply below_drewN))).grown hg1 (by simp [Value.ownBlock])
      refine hK.out _ _ hbA ?_
      repeat (refine ord_q (v := ?_) rfl (by rfl) ?_ ?_; rotate_left; (focus (intro w' hS; go_simp; exact rfl)); simp only [Act.put, List.setIfInBounds_toArray, List.set_cons_zero, List.set_cons_succ])
      have x0 := k3.cell 0 _ rfl
      have x1 := k3.cell 1 _ rfl
      have x2 := k3.frozen 0
      have x3 := k3.frozen 1
      have hz3 := k3.lt
      refine ord_l (by rfl) rfl (by rfl) ?_; intro K hK; go_simp; refine hK.out _ _ ?_
      refine ord_e ?_
      go_wp2
      go_meet
      case rel => exact ⟨_, _, rfl, by have := hbA.size; omega, below_of HB (below_set (below_set hbA (by first | omega | (simp; done) | (simp; omega)) _) (by first | omega | (simp; done) | (simp; omega)) _), (k1.far (by first | omega | (simp; done) | (simp; omega)) _).far (by first | omega | (simp; done) | (simp; omega)) _, (k2.far (by first | omega | (simp; done) | (simp; omega)) _).far (by first | omega | (simp; done) | (simp; omega)) _, (k3.set 0 _).set 1 _, (HO1.far (HO1.ne_type k3 (by decide)) _).far (HO1.ne_type k3 (by decide)) _, HO1.ne_type k3 (by decide)⟩
  case rest =>
    obtain ⟨b, v, rfl, hbb, HB2, k1, k2, k3, HO, hne⟩ := hcut
    obtain ⟨Av, cv, rfl, hcv⟩ := HO.slice
    have hwr : IntKind.i64.wrap (nx + 1) = nx + 1 := IntWalk.i64_in _ (by omega)
    rw [hwr] at k3
    have d0 := k1.cell 0 _ rfl
    have d1 := k1.cell 1 _ rfl
    have d2 := k1.cell 2 _ rfl
    have d3 := k1.cell 3 _ rfl
    have e0 := k2.cell 0 _ rfl
    have e1 := k2.cell 1 _ rfl
    have e2 := k2.frozen 0
    have e3 := k2.frozen 1
    have x0 := k3.cell 0 _ rfl
    have x1 := k3.cell 1 _ rfl
    have x2 := k3.frozen 0
    have hy1 := k1.lt
    have hy2 := k2.lt
    have hy3 := k3.lt
    go_wp2_with (at_builtin; refine wpl_push (⟨nx, f.name, f.ty, f.par⟩ : Fld) (enc := Fld.enc) Fld.len rfl rfl _ _ 29 53 _ 40 rfl Try.underlying29 infoF rfl (by omega) (by omega) (by rfl) (by rfl) HO HB2 (by first | omega | (simp; done) | (simp; omega)) (by first | omega | (simp; done) | (simp; omega)) (by first | omega | (simp; done) | (simp; omega)) ?_; intro A1 c1 w1 HO1 HB1 hg1; have m2 := k2.grown hg1 (HO.ne (by omega)); have m3 := k3.grown hg1 hne; have y0 := m3.cell 0 _ rfl; have y1 := m3.cell 1 _ rfl; have y2 := m3.frozen 0; have z0 := m2.cell 0 _ rfl; have z1 := m2.cell 1 _ rfl; have z2 := m2.frozen 0; have z3 := m2.frozen 1; have hu2 := m2.lt; have hu3 := m3.lt)
    obtain ⟨A2, c2, he, hc2, hr2, hf2⟩ := (((HO1.far (a := ⟨b, 0, none⟩) (HO1.ne_type m3 (by decide)) (.slice A1 (l.length + 1) c1)).set (a := ⟨w.heap.size + 1 + 1, 0, none⟩) (by simp) (.slice A1 (l.length + 1) c1)).set (a := ⟨w.heap.size + 1 + 1, 1, none⟩) (by simp) (.int .i64 (nx + 1))).rd Fld.len (by simp; omega)
    simp only [List.length_append, List.length_singleton] at he
    cases he
    exact end_cell (t := 31) rfl rfl (((m2.far (a := ⟨b, 0, none⟩) (by first | omega | (simp; done) | (simp; omega)) _).set 0 _).set 1 _) Try.underlying31 rfl rfl rfl ⟨_, _, by simp only [plusR, List.length_append, List.length_singleton]; rfl, by simpa [plusR] using hc2, hr2, hf2.le (by omega), below_set (below_set (below_set HB1 (by first | omega | (simp; done) | (simp; omega)) _) (by first | omega | (simp; done) | (simp; omega)) _) (by first | omega | (simp; done) | (simp; omega)) _⟩
end Go.Proofs.Ythcphdgfdkgimaa
