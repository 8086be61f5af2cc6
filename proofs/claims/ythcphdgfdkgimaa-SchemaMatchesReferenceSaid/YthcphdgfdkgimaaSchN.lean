/- Package schema, part N: widen. -/
import Derived.Test.YthcphdgfdkgimaaSchM
set_option linter.unusedSimpArgs false
set_option linter.unusedVariables false
namespace Go.Proofs.Ythcphdgfdkgimaa
open Go.RowKit
set_option maxRecDepth 100000 in
set_option maxHeartbeats 1600000 in
theorem sWiden (b base : Nat) (l : List Fld) (nx : Int) (c : Chg) (w : World) (hst : St w b base l nx) (hbb : base ≤ b) (hl : l.length ≤ 900) (hN : Nums l nx) (hk : c.kind = 4) :
    Calls Try.prog 38 #[.pointer (some ⟨b, 0, none⟩), chgV c] w (RetX w b base (oneR l nx c)) := by
  obtain ⟨v, hb0, HO⟩ := hst
  obtain ⟨Av, cv, rfl, hcv, hr, hfv⟩ := HO.rd Fld.len (by omega)
  have hbw := hb0.lt
  have hbw2 : base ≤ w.heap.size := by omega
  have hk2 := Lib.hid hk
  clear hk
  go_enter Try.func38, Try.ntmps38
  go_upto_region 1 with (fail)
  refine wp_letter ?_
  intro W hW
  have h3 : Box W w.heap.size c.enc 43 := by subst hW; exact box_new _ _ _ rfl
  have hB : Below w.heap.size w W := by subst hW; exact (by repeat (first | exact below_refl _ | apply below_alloc | apply below_drew | apply below_drewN))
  clear hW
  have hb1 := hb0.keep hB
  have h3z := h3.lt; have h3c0 := h3.cell 0 _ rfl; have h3c1 := h3.cell 1 _ rfl; have h3c2 := h3.cell 2 _ rfl; have h3c3 := h3.cell 3 _ rfl; have h3c4 := h3.cell 4 _ rfl; have h3c5 := h3.cell 5 _ rfl; have h3c6 := h3.cell 6 _ rfl; have h3c7 := h3.cell 7 _ rfl; have hb1z := hb1.lt; have hb1c0 := hb1.cell 0 _ rfl; have hb1c1 := hb1.cell 1 _ rfl
  refine region_below (by kernel_rfl) (by kernel_rfl) ?_; (repeat (first | (refine quiet_on (v := ?_) (by rfl) ?_ ?_; rotate_left; (focus (intro w' hS; have s0 := cell_keep hS hb1c0; have s1 := cell_keep hS hb1c1; have s2 := cell_keep hS h3c1; go_simp; first | exact rfl | (refine (sIndex _ _ _ _ _ _ ((hr.keep hB).keep hS)).mono ?_; rintro e w1 ⟨rfl, hb⟩; refine ⟨?_, below_of hS hb⟩; exact rfl))); simp only [Act.put, List.setIfInBounds_toArray, List.set_cons_zero, List.set_cons_succ]) | (refine quiet_off (by rfl) ?_; simp only [Act.put, List.setIfInBounds_toArray, List.set_cons_zero, List.set_cons_succ]))); refine wpQuiet_nil ?_; intro wq hq; try dsimp only
  have hBq := below_of hB hq
  have q3 := h3.keep hq
  have qb := hb1.keep hq
  have HOq := HO.kept hBq
  have q3z := q3.lt; have q3c0 := q3.cell 0 _ rfl; have q3c1 := q3.cell 1 _ rfl; have q3c2 := q3.cell 2 _ rfl; have q3c3 := q3.cell 3 _ rfl; have q3c4 := q3.cell 4 _ rfl; have q3c5 := q3.cell 5 _ rfl; have q3c6 := q3.cell 6 _ rfl; have q3c7 := q3.cell 7 _ rfl; have qbz := qb.lt; have qbc0 := qb.cell 0 _ rfl; have qbc1 := qb.cell 1 _ rfl
  rcases first_has l c.id with ⟨hf, hh⟩ | ⟨j, hf, hj, hh, hg, hid⟩
  · go_wp2
    all_goals first
      | exact end_tmp rfl rfl rfl (retX_bad (by unfold oneR; rw [hh]; (repeat (first | (refine (if_pos ?_).trans ?_; (focus (first | assumption | omega | (simp [*]; done)))) | (refine (if_neg ?_).trans ?_; (focus (first | assumption | omega | (simp [*]; done)))))); try (first | rfl | (simp [*]; done))) (by decide) (hBq.mono hbw2))
      | (exfalso; omega)
  · rw [hf]
    have hj0 : (0 : Int) ≤ (j : Int) := by omega
    have hj1 : (j : Int) < (l.length : Int) := by omega
    obtain ⟨g, tail, rfl, hgb, hbx, hre⟩ := own_open HOq (by omega)
    obtain ⟨f0, f1, f2, f3⟩ := hbx.fld hj
    have z2 := hbx.frozen (j * 4 + 2)
    have hgz := hbx.lt
    go_wp2
    · exact end_tmp rfl rfl rfl (retX_bad (by have hk := hk2.out; unfold oneR; rw [hh, hg]; (repeat (first | (refine (if_pos ?_).trans ?_; (focus (first | assumption | omega | (simp [*]; done)))) | (refine (if_neg ?_).trans ?_; (focus (first | assumption | omega | (simp [*]; done)))))); try (first | rfl | (simp [*]; done))) (by decide) (hBq.mono hbw2))
    · have hv : oneR l nx c = (0, withR l ⟨l[j].id, l[j].name, 3, l[j].par⟩, nx) := by have hk := hk2.out; unfold oneR; rw [hh, hg]; (repeat (first | (refine (if_pos ?_).trans ?_; (focus (first | assumption | omega | (simp [*]; done)))) | (refine (if_neg ?_).trans ?_; (focus (first | assumption | omega | (simp [*]; done)))))); try (first | rfl | (simp [*]; done))
      have hbx2 := hbx.set (j * 4 + 2) (.int .i64 3)
      rw [flat_one (x := ⟨l[j].id, l[j].name, 3, l[j].par⟩) (by omega) l j hj rfl tail] at hbx2
      have hne : b ≠ g := by intro h; subst h; unfold Box at qb hbx; rw [qb] at hbx; simp at hbx
      have HO2 := hre _ (l.set j ⟨l[j].id, l[j].name, 3, l[j].par⟩) (by simp) hbx2
      exact end_tmp rfl rfl rfl (by rw [hv, ← set_with hN hj ⟨l[j].id, l[j].name, 3, l[j].par⟩ rfl]; exact ⟨rfl, fun _ => ⟨_, qb.far hne _, HO2⟩, (hBq.mono hbw2).setCell hgb _⟩)
end Go.Proofs.Ythcphdgfdkgimaa
