/- The references of fenlandref06, part B: schemas that are made. -/
import Derived.Test.YthcphdgfdkgimaaRefA
import Derived.Test.YthcphdgfdkgimaaOrd
import Derived.Deep.RegionHeld3
import Derived.Deep.QuietTactic
import Derived.BigQuiet
set_option linter.unusedSimpArgs false
set_option linter.unusedVariables false
namespace Go.Proofs.Ythcphdgfdkgimaa
open Go.RowKit
theorem infoF : (Try.prog.info? 53).map (fun i => (i.zero, i.size, i.bytes)) = some (some (.agg #[.int .i64 0, .string ⟨#[]⟩, .int .i64 0, .int .i64 0]), 4, 40) := by kernel_rfl
/-- A schema is handed back. -/
def RetS (w0 : World) (l : List Fld) (nx : Int) (e : Ending) (w' : World) : Prop := ∃ A c, e = .returned (.agg #[.slice A l.length c, .int .i64 nx]) ∧ l.length ≤ c ∧ RdF w' A l ∧ Frm w0.heap.size A ∧ Below w0.heap.size w0 w'
def withR (l : List Fld) (f : Fld) : List Fld := l.map fun g => if g.id == f.id then f else g
theorem map_take_succ {α β : Type} (f : α → β) {l : List α} {k : Nat} (h : k < l.length) : (l.take (k + 1)).map f = (l.take k).map f ++ [f l[k]] := by
  rw [List.take_succ_eq_append_getElem h, List.map_append]; rfl
set_option maxRecDepth 100000 in
set_option maxHeartbeats 1000000 in
theorem rWith (A : Option Addr) (c : Nat) (l : List Fld) (nx : Int) (f : Fld) (w : World) (hr : RdF w A l) (hl : l.length ≤ 1000) :
    Calls Try.prog 68 #[.agg #[.slice A l.length c, .int .i64 nx], fldV f] w (RetS w (withR l f) nx) := by
  go_enter Try.func68, Try.ntmps68
  go_wp2
  go_loopw [6] (fun i wr => ∃ (k : Nat) (v : Value), i = .int .i64 k ∧ k ≤ l.length ∧ Below w.heap.size w wr ∧ Box wr w.heap.size [.slice A l.length c, .int .i64 nx] 31 ∧ Box wr (w.heap.size + 1) [.int .i64 f.id, .string f.name, .int .i64 f.ty, .int .i64 f.par] 53 ∧ Box wr (w.heap.size + 1 + 1) [.slice none 0 0, .int .i64 0] 31 ∧ Box wr (w.heap.size + 1 + 1 + 1) [v, .int .i64 nx] 31 ∧ Own Fld.enc 4 wr (w.heap.size + 1 + 1 + 1 + 1) 53 v (withR (l.take k) f)) (fun i _ => l.length - (intOf i).toNat)
  case atStart => exact ⟨0, _, rfl, by omega, below_alloc (below_alloc (below_alloc (below_alloc (below_refl _) _) _) _) _, (((box_new _ _ _ rfl).alloc _).alloc _).alloc _, ((box_new _ _ _ (by simp)).alloc _).alloc _, (box_new _ _ _ (by simp)).alloc _, box_new _ _ _ (by simp), Own.none _ _ _ _ _⟩
  case round =>
    obtain ⟨k, v, rfl, hk, HB, h0, h1, h2, h3, HO⟩ := hrel
    obtain ⟨Av, cv, rfl, hcv⟩ := HO.slice
    have g0 := h2.cell 0 _ rfl
    have g1 := h2.cell 1 _ rfl
    have g2 := h2.frozen 0
    have g3 := h2.frozen 1
    have hz0 := h0.lt
    have hz1 := h1.lt
    have hz2 := h2.lt
    have hz := h3.lt
    have c0 := h0.cell 0 _ rfl
    have d0 := h1.cell 0 _ rfl
    have d1 := h1.cell 1 _ rfl
    have d2 := h1.cell 2 _ rfl
    have d3 := h1.cell 3 _ rfl
    have e0 := h3.cell 0 _ rfl
    have e1 := h3.cell 1 _ rfl
    have e2 := h3.frozen 0
    by_cases hlt : k < l.length
    · obtain ⟨b, o, rfl, hbw, hb, f0, f1, f2, f3⟩ := RdF.atk hr HB k hlt
      have hi0 : (0 : Int) ≤ (k : Int) := by omega
      have hi1 : (k : Int) < (l.length : Int) := by omega
      have hlen : (withR (l.take k) f).length ≤ k := by simp [withR]; omega
      have hkd : Below wr.heap.size wr wr := below_refl _
      go_wp2
      go_quiet (fail)
      by_cases hid : (l[k].id == f.id) = true
      · have HW : Hid (withR (l.take (k + 1)) f = withR (l.take k) f ++ [f]) := by unfold withR; rw [map_take_succ _ hlt, if_pos hid]; exact rfl
        go_wp2_with (at_builtin; refine wpl_push f (enc := Fld.enc) Fld.len rfl rfl _ _ 29 53 _ 40 rfl Try.underlying29 infoF rfl (by omega) (by omega) (by rfl) (by rfl) (HO.kept (below_drewN (below_refl _) _)) (below_drewN HB _) (by simp; omega) (by omega) (by omega) ?_; intro A1 c1 w1 HO1 HB1 hg1; have k0 := (h0.keep (below_drewN (below_refl _) nq)).grown hg1 (HO.ne (by omega)); have k1 := (h1.keep (below_drewN (below_refl _) nq)).grown hg1 (HO.ne (by omega)); have k2 := (h2.keep (below_drewN (below_refl _) nq)).grown hg1 (HO.ne (by omega)); have k3 := (h3.keep (below_drewN (below_refl _) nq)).grown hg1 (HO.ne (by omega)); have x0 := k3.cell 0 _ rfl; have x1 := k3.frozen 0)
        go_roundw
        case rel => exact ⟨k + 1, _, by go_num, by omega, below_set HB1 (by first | omega | (simp; done) | (simp; omega)) _, k0.far (by first | omega | (simp; done) | (simp; omega)) _, k1.far (by simp) _, k2.far (by first | (simp; done) | omega) _, k3.set _ _, by rw [HW.out]; exact HO1.set (a := ⟨w.heap.size + 1 + 1 + 1, 0, none⟩) (by simp) _⟩
        case measure => simp [intOf]; omega
      · have HW : Hid (withR (l.take (k + 1)) f = withR (l.take k) f ++ [l[k]]) := by unfold withR; rw [map_take_succ _ hlt, if_neg hid]; exact rfl
        have hid' : (l[k].id == f.id) = false := by simpa using hid
        go_wp2
        refine region_ord (fun w' => Below wr.heap.size wr w') [8, 9, 10] (.q 0 (.q 1 (.q 2 (.q 3 (.q 4 (.q 5 (.q 6 (.g 7 (.g 8 (.g 9 (.g 10 .e))))))))))) (by kernel_rfl) (by kernel_rfl) (fun _ _ d _ _ h => by cases d <;> exact h) (by repeat (first | exact below_refl _ | apply below_alloc | apply below_drew | apply below_drewN)) ?_
        repeat (refine ord_q (v := ?_) rfl (by rfl) ?_ ?_; rotate_left; (focus (intro w' hS; have s0 := cell_keep hS e0; have s1 := cell_keep hS c0; have s2 := cell_keep hS f0; have s3 := cell_keep hS f1; have s4 := cell_keep hS f2; have s5 := cell_keep hS f3; go_simp; exact rfl)); simp only [Act.put, List.setIfInBounds_toArray, List.set_cons_zero, List.set_cons_succ])
        refine ord_g (by rfl) (by rfl) ?_; intro K hK; go_simp; refine hK.out _ _ (by repeat (first | exact below_refl _ | apply below_alloc | apply below_drew | apply below_drewN)) ?_
        refine ord_l (by rfl) rfl (by rfl) ?_; intro K hK
        refine wp_push l[k] (enc := Fld.enc) Fld.len rfl _ _ 29 53 _ 40 (by rfl) Try.underlying29 infoF rfl (by omega) (by omega) (by rfl) (by rfl) (g := wr.heap.size) (box_new _ _ _ (by simp)) (HO.kept (by repeat (first | exact below_refl _ | apply below_alloc | apply below_drew | apply below_drewN))) (below_of HB (by repeat (first | exact below_refl _ | apply below_alloc | apply below_drew | apply below_drewN))) (by first | omega | (simp; omega)) (by omega) (by omega) ?_
        intro A1 c1 w1 HO1 HB1 hg1
        have k0 := (h0.keep (by repeat (first | exact below_refl _ | apply below_alloc | apply below_drew | apply below_drewN))).grown hg1 (HO.ne (by omega))
        have k1 := (h1.keep (by repeat (first | exact below_refl _ | apply below_alloc | apply below_drew | apply below_drewN))).grown hg1 (HO.ne (by omega))
        have k2 := (h2.keep (by repeat (first | exact below_refl _ | apply below_alloc | apply below_drew | apply below_drewN))).grown hg1 (HO.ne (by omega))
        have k3 := (h3.keep (by repeat (first | exact below_refl _ | apply below_alloc | apply below_drew | apply below_drewN))).grown hg1 (HO.ne (by omega))
        have x0 := k3.cell 0 _ rfl
        have x1 := k3.frozen 0
        refine hK.out _ _ ?_
        refine ord_l (by rfl) rfl (by rfl) ?_; intro K hK; go_simp; refine hK.out _ _ ?_
        refine ord_l (by rfl) rfl (by rfl) ?_; intro K hK; go_simp; refine hK.out _ _ ?_
        refine ord_e ?_
        go_wp2
        go_roundw
        case rel => exact ⟨k + 1, _, by go_num, by omega, below_set HB1 (by first | omega | (simp; done) | (simp; omega)) _, k0.far (by first | omega | (simp; done) | (simp; omega)) _, k1.far (by simp) _, k2.far (by first | (simp; done) | omega) _, k3.set _ _, by rw [HW.out]; exact HO1.set (a := ⟨w.heap.size + 1 + 1 + 1, 0, none⟩) (by simp) _⟩
        case measure => simp [intOf]; omega
    · have HW : Hid (withR (l.take k) f = withR l f) := by unfold withR; rw [List.take_of_length_le (by omega)]; exact rfl
      obtain ⟨A2, c2, he, hc2, hr2, hf2⟩ := ((HO.set (a := ⟨w.heap.size + 1 + 1, 0, none⟩) (by simp) (.slice Av (withR (l.take k) f).length cv)).set (a := ⟨w.heap.size + 1 + 1, 1, none⟩) (by simp) (.int .i64 nx)).rd Fld.len (by simp [withR]; omega)
      cases he
      go_wp2
      exact end_cell (t := 31) rfl rfl ((h2.set 0 _).set 1 _) Try.underlying31 rfl rfl rfl ⟨_, _, by rw [← HW.out]; rfl, by rw [← HW.out]; exact hc2, by rw [← HW.out]; exact hr2, hf2.le (by omega), below_set (below_set HB (by simp; omega) _) (by simp; omega) _⟩
end Go.Proofs.Ythcphdgfdkgimaa
