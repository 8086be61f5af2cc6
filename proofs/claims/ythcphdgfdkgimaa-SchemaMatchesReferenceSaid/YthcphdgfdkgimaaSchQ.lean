/- Package schema, part Q: split. -/
import Derived.Test.YthcphdgfdkgimaaSchP
set_option linter.unusedSimpArgs false
set_option linter.unusedVariables false
namespace Go.Proofs.Ythcphdgfdkgimaa
open Go.RowKit
set_option maxRecDepth 100000 in
set_option maxHeartbeats 3200000 in
theorem sSplit (b base : Nat) (l : List Fld) (nx : Int) (c : Chg) (w : World) (hst : St w b base l nx) (hbb : base ≤ b) (hl : l.length ≤ 900) (hn : 0 ≤ nx ∧ nx ≤ 100000000000) (hs : c.ok) :
    Calls Try.prog 40 #[.pointer (some ⟨b, 0, none⟩), chgV c] w (RetX w b base (splitR l nx c)) := by
  obtain ⟨hs1, hs2, hs3⟩ := hs
  obtain ⟨v, hb0, HO⟩ := hst
  obtain ⟨Av, cv, rfl, hcv, hr, hfv⟩ := HO.rd Fld.len (by omega)
  have hbw := hb0.lt
  have hbw2 : base ≤ w.heap.size := by omega
  go_enter Try.func40, Try.ntmps40
  go_upto_region 1 with (fail)
  refine wp_letter ?_
  intro W hW
  have h3 : Box W w.heap.size c.enc 43 := by subst hW; exact box_new _ _ _ rfl
  have hB : Below w.heap.size w W := by subst hW; exact (by repeat (first | exact below_refl _ | apply below_alloc | apply below_drew | apply below_drewN))
  clear hW
  have hb1 := hb0.keep hB
  have h3z := h3.lt; have h3c0 := h3.cell 0 _ rfl; have h3c1 := h3.cell 1 _ rfl; have h3c2 := h3.cell 2 _ rfl; have h3c3 := h3.cell 3 _ rfl; have h3c4 := h3.cell 4 _ rfl; have h3c5 := h3.cell 5 _ rfl; have h3c6 := h3.cell 6 _ rfl; have h3c7 := h3.cell 7 _ rfl; have hb1z := hb1.lt; have hb1c0 := hb1.cell 0 _ rfl; have hb1c1 := hb1.cell 1 _ rfl
  go_cut [5, 6] (fun p q wc => ∃ b5, p = .pointer (some ⟨b5, 0, none⟩) ∧ q = .bool (hasF l c.id) ∧ W.heap.size ≤ b5 ∧ Below W.heap.size W wc ∧ Box wc b5 (getF l c.id).enc 53)
  case first =>
    refine region_ord (fun w' => Below W.heap.size W w') [12] (.q 0 (.q 1 (.q 2 (.q 3 (.q 4 (.q 5 (.two 6 10 (.q 7 (.q 8 (.q 9 (.g 10 (.g 11 (.g 12 .e)))))) (.g 6 (.q 7 (.q 8 (.q 9 (.g 11 (.g 12 .e))))))))))))) (by kernel_rfl) (by kernel_rfl) (fun _ _ d _ _ h => by cases d <;> exact h) (by repeat (first | exact below_refl _ | apply below_alloc | apply below_drew | apply below_drewN)) ?_
    repeat (refine ord_q (v := ?_) rfl (by rfl) ?_ ?_; rotate_left; (focus (intro w' hS; have s0 := cell_keep hS hb1c0; have s1 := cell_keep hS hb1c1; have s2 := cell_keep hS h3c1; go_simp; exact rfl)); simp only [Act.put, List.setIfInBounds_toArray, List.set_cons_zero, List.set_cons_succ])
    refine ord_two rfl rfl (by rfl) (by rfl) ?_ ?_
    · intro K hK; go_simp
      refine (sField _ _ _ _ _ _ ((hr.keep hB).keep (by repeat (first | exact below_refl _ | apply below_alloc | apply below_drew | apply below_drewN)))).mono ?_
      rintro e wa ⟨rfl, hba⟩
      have hba := below_of (by exact (by repeat (first | exact below_refl _ | apply below_alloc | apply below_drew | apply below_drewN)) : Below W.heap.size W W.drew) hba
      refine hK.out _ _ hba ?_
      repeat (refine ord_q (v := ?_) rfl (by rfl) ?_ ?_; rotate_left; (focus (intro w' hS; go_simp; exact rfl)); simp only [Act.put, List.setIfInBounds_toArray, List.set_cons_zero, List.set_cons_succ])
      refine ord_g (by rfl) (by rfl) ?_; intro K hK; go_simp; refine hK.out _ _ (below_alloc hba _) ?_
      refine ord_g (by rfl) (by rfl) ?_; intro K hK; go_simp; refine hK.out _ _ (below_alloc hba _) ?_
      refine ord_l (by rfl) rfl (by rfl) ?_; intro K hK; go_simp; refine hK.out _ _ ?_
      refine ord_e ?_
      go_wp2
      go_meet
      case rel => exact ⟨_, rfl, rfl, hba.size, below_alloc hba _, box_new _ _ _ rfl⟩
    · intro K hK; go_simp; refine hK.out _ _ (by repeat (first | exact below_refl _ | apply below_alloc | apply below_drew | apply below_drewN)) ?_
      refine ord_g (by rfl) (by rfl) ?_; intro K hK
      go_simp
      refine (sField _ _ _ _ _ _ ((hr.keep hB).keep (by repeat (first | exact below_refl _ | apply below_alloc | apply below_drew | apply below_drewN)))).mono ?_
      rintro e wa ⟨rfl, hba⟩
      have hbx := (box_new W [.int .i64 0, .string ⟨#[]⟩, .int .i64 0, .int .i64 0] 53 rfl).keep (below_of (by repeat (first | exact below_refl _ | apply below_alloc | apply below_drew | apply below_drewN)) hba)
      have hba := below_of (by exact (by repeat (first | exact below_refl _ | apply below_alloc | apply below_drew | apply below_drewN)) : Below W.heap.size W (W.alloc (.cells #[.int .i64 0, .string ⟨#[]⟩, .int .i64 0, .int .i64 0] 53)).drew) hba
      refine hK.out _ _ hba ?_
      have hbxz := hbx.lt; have hbxc0 := hbx.cell 0 _ rfl; have hbxf0 := hbx.frozen 0; have hbxc1 := hbx.cell 1 _ rfl; have hbxf1 := hbx.frozen 1; have hbxc2 := hbx.cell 2 _ rfl; have hbxf2 := hbx.frozen 2; have hbxc3 := hbx.cell 3 _ rfl; have hbxf3 := hbx.frozen 3
      repeat (refine ord_q (v := ?_) rfl (by rfl) ?_ ?_; rotate_left; (focus (intro w' hS; go_simp; exact rfl)); simp only [Act.put, List.setIfInBounds_toArray, List.set_cons_zero, List.set_cons_succ])
      refine ord_g (by rfl) (by rfl) ?_; intro K hK; go_simp; refine hK.out _ _ (below_set (below_set (below_set (below_set hba (Nat.le_refl _) _) (Nat.le_refl _) _) (Nat.le_refl _) _) (Nat.le_refl _) _) ?_
      refine ord_l (by rfl) rfl (by rfl) ?_; intro K hK; go_simp; refine hK.out _ _ ?_
      refine ord_e ?_
      go_wp2
      go_meet
      case rel => exact ⟨_, rfl, rfl, Nat.le_refl _, below_set (below_set (below_set (below_set hba (Nat.le_refl _) _) (Nat.le_refl _) _) (Nat.le_refl _) _) (Nat.le_refl _) _, (((hbx.set 0 _).set 1 _).set 2 _).set 3 _⟩
  case rest =>
    obtain ⟨b5, rfl, rfl, hb5, HBc, m5⟩ := hcut
    have hfid : hasF l c.id = true → (getF l c.id).id = c.id := by
      intro h
      rcases first_has l c.id with ⟨_, h2⟩ | ⟨j, _, hj, _, hg, hid⟩
      · rw [h] at h2; cases h2
      · rw [hg, hid]
    generalize hF : getF l c.id = f at *
    generalize hH : hasF l c.id = has at *
    have m3 := h3.keep HBc
    have mb := hb1.keep HBc
    have hBc := below_of hB HBc
    have HOc := HO.kept hBc
    have hrc := hr.keep hBc
    have m3z := m3.lt; have m3c0 := m3.cell 0 _ rfl; have m3c1 := m3.cell 1 _ rfl; have m3c2 := m3.cell 2 _ rfl; have m3c3 := m3.cell 3 _ rfl; have m3c4 := m3.cell 4 _ rfl; have m3c5 := m3.cell 5 _ rfl; have m3c6 := m3.cell 6 _ rfl; have m3c7 := m3.cell 7 _ rfl; have mbz := mb.lt; have mbc0 := mb.cell 0 _ rfl; have mbc1 := mb.cell 1 _ rfl; have m5z := m5.lt; have m5c0 := m5.cell 0 _ rfl; have m5c1 := m5.cell 1 _ rfl; have m5c2 := m5.cell 2 _ rfl; have m5c3 := m5.cell 3 _ rfl
    cases has
    · go_wp2
      exact end_tmp rfl rfl rfl (retX_bad (by unfold splitR; rw [hH]; (repeat (first | (refine (if_pos ?_).trans ?_; (focus (first | assumption | omega | (simp [*]; done)))) | (refine (if_neg ?_).trans ?_; (focus (first | assumption | omega | (simp [*]; done)))))); try (first | rfl | (simp [*]; done))) (by decide) (hBc.mono hbw2))
    have hid : f.id = c.id := hfid rfl
    have ht1 := Lib.hid (taken_one l c.name f.par c.id)
    have ht2 := Lib.hid (taken_one l c.other f.par c.id)
    go_upto_region 8 with (go_at_call 63; refine (sSep _ _ hs3).mono ?_; rintro e w3 ⟨rfl, hww⟩; rw [hww])
    any_goals exact end_tmp rfl rfl rfl (retX_bad (by unfold splitR; rw [hH, hF]; (repeat (first | (refine (if_pos ?_).trans ?_; (focus (first | assumption | omega | (simp [*]; done)))) | (refine (if_neg ?_).trans ?_; (focus (first | assumption | omega | (simp [*]; done)))))); try (first | rfl | (simp [*]; done))) (by decide) (hBc.mono hbw2))
    go_upto_region 12 with (first
      | (go_at_call 56; refine (sTaken b Av cv l nx f.par _ _ _ [c.id] _ (mb.keep (by repeat (first | exact below_refl _ | apply below_alloc | apply below_drew | apply below_drewN))) (hrc.keep (by repeat (first | exact below_refl _ | apply below_alloc | apply below_drew | apply below_drewN))) (rdI_box (xs := [c.id]) (box_new _ [.int .i64 c.id] _ rfl) (by simp)) (by first | exact hs1 | exact hs2)).mono ?_; rintro e w2 ⟨rfl, hb2⟩; (first | rw [ht1.out] | rw [ht2.out]); have m3 := (m3.keep (by repeat (first | exact below_refl _ | apply below_alloc | apply below_drew | apply below_drewN))).keep hb2; have mb := (mb.keep (by repeat (first | exact below_refl _ | apply below_alloc | apply below_drew | apply below_drewN))).keep hb2; have m5 := (m5.keep (by repeat (first | exact below_refl _ | apply below_alloc | apply below_drew | apply below_drewN))).keep hb2; have hrc := (hrc.keep (by repeat (first | exact below_refl _ | apply below_alloc | apply below_drew | apply below_drewN))).keep hb2; have HOc := (HOc.kept (by repeat (first | exact below_refl _ | apply below_alloc | apply below_drew | apply below_drewN))).kept hb2; have hBc := below_of (below_of hBc (by repeat (first | exact below_refl _ | apply below_alloc | apply below_drew | apply below_drewN))) hb2; have m3z := m3.lt; have m3c0 := m3.cell 0 _ rfl; have m3c1 := m3.cell 1 _ rfl; have m3c2 := m3.cell 2 _ rfl; have m3c3 := m3.cell 3 _ rfl; have m3c4 := m3.cell 4 _ rfl; have m3c5 := m3.cell 5 _ rfl; have m3c6 := m3.cell 6 _ rfl; have m3c7 := m3.cell 7 _ rfl; have mbz := mb.lt; have mbc0 := mb.cell 0 _ rfl; have mbc1 := mb.cell 1 _ rfl; have m5z := m5.lt; have m5c0 := m5.cell 0 _ rfl; have m5c1 := m5.cell 1 _ rfl; have m5c2 := m5.cell 2 _ rfl; have m5c3 := m5.cell 3 _ rfl)
      | (go_at_call 57; refine (sFull b Av cv l nx 2 _ mb (by omega)).mono ?_; rintro e w3 ⟨rfl, hww⟩; rw [hww]))
    any_goals exact end_tmp rfl rfl rfl (retX_bad (by
      unfold splitR; rw [hH, hF, hid]
      by_cases hh : (l.length : Int) ≥ 64
      · (repeat (first | (refine (if_pos ?_).trans ?_; (focus (first | assumption | omega | (simp [*]; done)))) | (refine (if_neg ?_).trans ?_; (focus (first | assumption | omega | (simp [*]; done)))))); try (first | rfl | (simp [*]; done))
      · (repeat (first | (refine (if_pos ?_).trans ?_; (focus (first | assumption | omega | (simp [*]; done)))) | (refine (if_neg ?_).trans ?_; (focus (first | assumption | omega | (simp [*]; done)))))); try (first | rfl | (simp [*]; done))) (by decide) (hBc.mono hbw2))
    have hv : splitR l nx c = (0, plusR (plusR (l.filter (keepP c.id)) nx ⟨0, c.name, 4, f.par⟩) (nx + 1) ⟨0, c.other, 4, f.par⟩, nx + 1 + 1) := by rw [keep_without]; unfold splitR; rw [hH, hF, hid]; (repeat (first | (refine (if_pos ?_).trans ?_; (focus (first | assumption | omega | (simp [*]; done)))) | (refine (if_neg ?_).trans ?_; (focus (first | assumption | omega | (simp [*]; done)))))); try (first | rfl | (simp [*]; done))
    have hvh := Lib.hid hv
    clear hv
    have hlf : (l.filter (keepP c.id)).length ≤ 900 := Nat.le_trans (List.length_filter_le _ _) hl
    have hlp : (plusR (l.filter (keepP c.id)) nx ⟨0, c.name, 4, f.par⟩).length ≤ 1000 := by rw [plusR_len]; omega
    have hlf1 : (l.filter (keepP c.id)).length ≤ 1000 := by omega
    have hl1 : l.length ≤ 1000 := by omega
    have hn1 : 0 ≤ nx ∧ nx ≤ 1000000000000 := by omega
    have hn2 : 0 ≤ nx + 1 ∧ nx + 1 ≤ 1000000000000 := by omega
    have hbo := HO.lt
    have hn3 : w.heap.size ≠ b := by omega
    have hn5 : b5 ≠ b := by have := hB.size; omega
    have ho3 : some w.heap.size ≠ (Value.slice Av l.length cv).ownBlock := fun e => by have := hbo _ e.symm; omega
    have ho5 : some b5 ≠ (Value.slice Av l.length cv).ownBlock := fun e => by have := hbo _ e.symm; have := hB.size; omega
    have hst3 : StV _ b base _ l nx := ⟨mb, HOc⟩
    go_wp2_with (first
      | (go_at_call 61; (with_reducible refine (sRemove b base _ l nx c.id _ hst3 hbb hl1).mono ?_); rintro e w4 ⟨rfl, v4, hst4, hk4, hB4⟩; have p3 := hk4.box m3 hn3 ho3; have p5 := hk4.box m5 hn5 ho5; have r3 := p3.1; have r5 := p5.1; have r3z := r3.lt; have r3c0 := r3.cell 0 _ rfl; have r3c1 := r3.cell 1 _ rfl; have r3c2 := r3.cell 2 _ rfl; have r3c3 := r3.cell 3 _ rfl; have r3c4 := r3.cell 4 _ rfl; have r3c5 := r3.cell 5 _ rfl; have r3c6 := r3.cell 6 _ rfl; have r3c7 := r3.cell 7 _ rfl; have r5z := r5.lt; have r5c0 := r5.cell 0 _ rfl; have r5c1 := r5.cell 1 _ rfl; have r5c2 := r5.cell 2 _ rfl; have r5c3 := r5.cell 3 _ rfl)
      | (go_at_call 58; (with_reducible refine (sPlus b base v4 (l.filter (keepP c.id)) nx c.name 4 f.par _ hst4 hbb hlf1 hn1).mono ?_); rintro e w5 ⟨rfl, v5, hst5, hk5, hB5⟩; have s3 := hk5.box r3 hn3 p3.2; have s5 := hk5.box r5 hn5 p5.2; have t3 := s3.1; have t5 := s5.1; have t3z := t3.lt; have t3c0 := t3.cell 0 _ rfl; have t3c1 := t3.cell 1 _ rfl; have t3c2 := t3.cell 2 _ rfl; have t3c3 := t3.cell 3 _ rfl; have t3c4 := t3.cell 4 _ rfl; have t3c5 := t3.cell 5 _ rfl; have t3c6 := t3.cell 6 _ rfl; have t3c7 := t3.cell 7 _ rfl; have t5z := t5.lt; have t5c0 := t5.cell 0 _ rfl; have t5c1 := t5.cell 1 _ rfl; have t5c2 := t5.cell 2 _ rfl; have t5c3 := t5.cell 3 _ rfl)
      | (go_at_call 58; (with_reducible refine (sPlus b base v5 (plusR (l.filter (keepP c.id)) nx ⟨0, c.name, 4, f.par⟩) (nx + 1) c.other 4 f.par _ hst5 hbb hlp hn2).mono ?_); rintro e w6 ⟨rfl, v6, hst6, hk6, hB6⟩))
    exact end_tmp rfl rfl rfl (by rw [hvh.out]; exact ⟨rfl, fun _ => ⟨_, hst6⟩, (((hBc.mono hbw2).trans hB4).trans hB5).trans hB6⟩)
end Go.Proofs.Ythcphdgfdkgimaa
