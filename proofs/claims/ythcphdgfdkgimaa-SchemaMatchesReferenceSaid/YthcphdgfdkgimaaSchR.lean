/- Package schema, part R: join. -/
import Derived.Test.YthcphdgfdkgimaaSchQ
set_option linter.unusedSimpArgs false
set_option linter.unusedVariables false
namespace Go.Proofs.Ythcphdgfdkgimaa
open Go.RowKit
theorem taken_two (l : List Fld) (nm : ByteArray) (par x y : Int) : (!nameOk nm || l.any (takenQ nm par [x, y])) = takenR l nm par x y := by
  unfold takenR
  rw [Bool.or_comm]
  congr 1
  rw [Bool.eq_iff_iff, List.any_eq_true, List.any_eq_true]
  constructor
  · rintro ⟨f, hf, hp⟩
    exact ⟨f, hf, by simp [takenQ, takenP] at hp ⊢; exact hp⟩
  · rintro ⟨f, hf, hp⟩
    exact ⟨f, hf, by simp [takenQ, takenP] at hp ⊢; exact hp⟩
theorem keep_two (l : List Fld) (x y : Int) : (l.filter (keepP x)).filter (keepP y) = withoutR l x y := by
  unfold withoutR; rw [List.filter_filter]; congr 1; funext f; simp [keepP, withoutP, bne, Bool.and_comm]
theorem has_id {l : List Fld} {id : Int} (h : hasF l id = true) : (getF l id).id = id := by
  rcases first_has l id with ⟨_, h2⟩ | ⟨j, _, hj, _, hg, hid⟩
  · rw [h] at h2; cases h2
  · rw [hg, hid]
set_option maxRecDepth 100000 in
set_option maxHeartbeats 3200000 in
theorem sJoin (b base : Nat) (l : List Fld) (nx : Int) (c : Chg) (w : World) (hst : St w b base l nx) (hbb : base ≤ b) (hl : l.length ≤ 900) (hn : 0 ≤ nx ∧ nx ≤ 100000000000) (hs : c.ok) :
    Calls Try.prog 41 #[.pointer (some ⟨b, 0, none⟩), chgV c] w (RetX w b base (joinR l nx c)) := by
  obtain ⟨hs1, hs2, hs3⟩ := hs
  obtain ⟨v, hb0, HO⟩ := hst
  obtain ⟨Av, cv, rfl, hcv, hr, hfv⟩ := HO.rd Fld.len (by omega)
  have hbw := hb0.lt
  have hbw2 : base ≤ w.heap.size := by omega
  go_enter Try.func41, Try.ntmps41
  go_upto_region 1 with (fail)
  refine wp_letter ?_
  intro W hW
  have h3 : Box W w.heap.size c.enc 43 := by subst hW; exact box_new _ _ _ rfl
  have hB : Below w.heap.size w W := by subst hW; exact (by repeat (first | exact below_refl _ | apply below_alloc | apply below_drew | apply below_drewN))
  clear hW
  have hb1 := hb0.keep hB
  have hrW := hr.keep hB
  have h3z := h3.lt; have h3c0 := h3.cell 0 _ rfl; have h3c1 := h3.cell 1 _ rfl; have h3c2 := h3.cell 2 _ rfl; have h3c3 := h3.cell 3 _ rfl; have h3c4 := h3.cell 4 _ rfl; have h3c5 := h3.cell 5 _ rfl; have h3c6 := h3.cell 6 _ rfl; have h3c7 := h3.cell 7 _ rfl; have hb1z := hb1.lt; have hb1c0 := hb1.cell 0 _ rfl; have hb1c1 := hb1.cell 1 _ rfl
  go_cut [5, 6] (fun p q wc => ∃ b5, p = .pointer (some ⟨b5, 0, none⟩) ∧ q = .bool (hasF l c.id) ∧ W.heap.size ≤ b5 ∧ Below W.heap.size W wc ∧ Box wc b5 (getF l c.id).enc 53)
  case first =>
    refine region_ord (fun w' => Below W.heap.size W w') [12] (.q 0 (.q 1 (.q 2 (.q 3 (.q 4 (.q 5 (.two 6 10 (.q 7 (.q 8 (.q 9 (.g 10 (.g 11 (.g 12 .e)))))) (.g 6 (.q 7 (.q 8 (.q 9 (.g 11 (.g 12 .e))))))))))))) (by kernel_rfl) (by kernel_rfl) (fun _ _ d _ _ h => by cases d <;> exact h) (by repeat (first | exact below_refl _ | apply below_alloc | apply below_drew | apply below_drewN)) ?_
    repeat (refine ord_q (v := ?_) rfl (by rfl) ?_ ?_; rotate_left; (focus (intro w' hS; have s0 := cell_keep hS hb1c0; have s1 := cell_keep hS hb1c1; have s2 := cell_keep hS h3c1; go_simp; exact rfl)); simp only [Act.put, List.setIfInBounds_toArray, List.set_cons_zero, List.set_cons_succ])
    refine ord_two rfl rfl (by rfl) (by rfl) ?_ ?_
    · intro K hK; go_simp
      refine (sField _ _ _ _ _ _ (hrW.keep (by repeat (first | exact below_refl _ | apply below_alloc | apply below_drew | apply below_drewN)))).mono ?_
      rintro e wa ⟨rfl, hba⟩
      have hba := below_of (by exact (by repeat (first | exact below_refl _ | apply below_alloc | apply below_drew | apply below_drewN)) : Below W.heap.size W (W.drew)) hba
      refine hK.out _ _ hba ?_
      repeat (refine ord_q (v := ?_) rfl (by rfl) ?_ ?_; rotate_left; (focus (intro w' hS; go_simp; exact rfl)); simp only [Act.put, List.setIfInBounds_toArray, List.set_cons_zero, List.set_cons_succ])
      refine ord_g (by rfl) (by rfl) ?_; intro K hK; go_simp; refine hK.out _ _ (below_alloc hba _) ?_
      refine ord_g (by rfl) (by rfl) ?_; intro K hK; go_simp; refine hK.out _ _ (below_alloc hba _) ?_
      refine ord_l (by rfl) rfl (by rfl) ?_; intro K hK; go_simp; refine hK.out _ _ ?_
      refine ord_e ?_
      go_wp2
      go_meet
      case rel => exact ⟨_, rfl, rfl, hba.size, below_alloc hba _, box_new _ _ _ rfl⟩
    · intro K hK; go_simp; refine hK.out _ _ (by repeat (first | exact below_refl _ | apply below_alloc | apply below_drew | apply below_drewN)) ?_
      refine ord_g (by rfl) (by rfl) ?_; intro K hK
      go_simp
      refine (sField _ _ _ _ _ _ (hrW.keep (by repeat (first | exact below_refl _ | apply below_alloc | apply below_drew | apply below_drewN)))).mono ?_
      rintro e wa ⟨rfl, hba⟩
      have hbx := (box_new W [.int .i64 0, .string ⟨#[]⟩, .int .i64 0, .int .i64 0] 53 rfl).keep (below_of (by repeat (first | exact below_refl _ | apply below_alloc | apply below_drew | apply below_drewN)) hba)
      have hba := below_of (by exact (by repeat (first | exact below_refl _ | apply below_alloc | apply below_drew | apply below_drewN)) : Below W.heap.size W ((W.alloc (.cells #[.int .i64 0, .string ⟨#[]⟩, .int .i64 0, .int .i64 0] 53)).drew)) hba
      refine hK.out _ _ hba ?_
      have hbxz := hbx.lt; have hbxc0 := hbx.cell 0 _ rfl; have hbxf0 := hbx.frozen 0; have hbxc1 := hbx.cell 1 _ rfl; have hbxf1 := hbx.frozen 1; have hbxc2 := hbx.cell 2 _ rfl; have hbxf2 := hbx.frozen 2; have hbxc3 := hbx.cell 3 _ rfl; have hbxf3 := hbx.frozen 3
      repeat (refine ord_q (v := ?_) rfl (by rfl) ?_ ?_; rotate_left; (focus (intro w' hS; go_simp; exact rfl)); simp only [Act.put, List.setIfInBounds_toArray, List.set_cons_zero, List.set_cons_succ])
      refine ord_g (by rfl) (by rfl) ?_; intro K hK; go_simp; refine hK.out _ _ (below_set (below_set (below_set (below_set hba (Nat.le_refl _) _) (Nat.le_refl _) _) (Nat.le_refl _) _) (Nat.le_refl _) _) ?_
      refine ord_l (by rfl) rfl (by rfl) ?_; intro K hK; go_simp; refine hK.out _ _ ?_
      refine ord_e ?_
      go_wp2
      go_meet
      case rel => exact ⟨_, rfl, rfl, Nat.le_refl _, below_set (below_set (below_set (below_set hba (Nat.le_refl _) _) (Nat.le_refl _) _) (Nat.le_refl _) _) (Nat.le_refl _) _, (((hbx.set 0 _).set 1 _).set 2 _).set 3 _⟩
  case rest =>
    obtain ⟨b5, rfl, rfl, hb5, HBc, m5⟩ := hcut
    have m3 := h3.keep HBc
    have mb := hb1.keep HBc
    have hBc := below_of hB HBc
    have hrc := hr.keep hBc
    clear h3c0 h3c1 h3c2 h3c3 h3c4 h3c5 h3c6 h3c7 hb1c0 hb1c1
    have m3z := m3.lt; have m3c0 := m3.cell 0 _ rfl; have m3c1 := m3.cell 1 _ rfl; have m3c2 := m3.cell 2 _ rfl; have m3c3 := m3.cell 3 _ rfl; have m3c4 := m3.cell 4 _ rfl; have m3c5 := m3.cell 5 _ rfl; have m3c6 := m3.cell 6 _ rfl; have m3c7 := m3.cell 7 _ rfl; have mbz := mb.lt; have mbc0 := mb.cell 0 _ rfl; have mbc1 := mb.cell 1 _ rfl
    go_upto_region 2 with (fail)
    go_cut [7, 8] (fun p q wd => ∃ b5, p = .pointer (some ⟨b5, 0, none⟩) ∧ q = .bool (hasF l c.wit) ∧ wc.heap.size ≤ b5 ∧ Below wc.heap.size wc wd ∧ Box wd b5 (getF l c.wit).enc 53)
    case first =>
      refine region_ord (fun w' => Below wc.heap.size wc w') [12] (.q 0 (.q 1 (.q 2 (.q 3 (.q 4 (.q 5 (.two 6 10 (.q 7 (.q 8 (.q 9 (.g 10 (.g 11 (.g 12 .e)))))) (.g 6 (.q 7 (.q 8 (.q 9 (.g 11 (.g 12 .e))))))))))))) (by kernel_rfl) (by kernel_rfl) (fun _ _ d _ _ h => by cases d <;> exact h) (by repeat (first | exact below_refl _ | apply below_alloc | apply below_drew | apply below_drewN)) ?_
      repeat (refine ord_q (v := ?_) rfl (by rfl) ?_ ?_; rotate_left; (focus (intro w' hS; have s0 := cell_keep hS mbc0; have s1 := cell_keep hS mbc1; have s2 := cell_keep hS m3c2; go_simp; exact rfl)); simp only [Act.put, List.setIfInBounds_toArray, List.set_cons_zero, List.set_cons_succ])
      refine ord_two rfl rfl (by rfl) (by rfl) ?_ ?_
      · intro K hK; go_simp
        refine (sField _ _ _ _ _ _ (hrc.keep (by repeat (first | exact below_refl _ | apply below_alloc | apply below_drew | apply below_drewN)))).mono ?_
        rintro e wa ⟨rfl, hba⟩
        have hba := below_of (by exact (by repeat (first | exact below_refl _ | apply below_alloc | apply below_drew | apply below_drewN)) : Below wc.heap.size wc (wc.drew)) hba
        refine hK.out _ _ hba ?_
        repeat (refine ord_q (v := ?_) rfl (by rfl) ?_ ?_; rotate_left; (focus (intro w' hS; go_simp; exact rfl)); simp only [Act.put, List.setIfInBounds_toArray, List.set_cons_zero, List.set_cons_succ])
        refine ord_g (by rfl) (by rfl) ?_; intro K hK; go_simp; refine hK.out _ _ (below_alloc hba _) ?_
        refine ord_g (by rfl) (by rfl) ?_; intro K hK; go_simp; refine hK.out _ _ (below_alloc hba _) ?_
        refine ord_l (by rfl) rfl (by rfl) ?_; intro K hK; go_simp; refine hK.out _ _ ?_
        refine ord_e ?_
        go_wp2
        go_meet
        case rel => exact ⟨_, rfl, rfl, hba.size, below_alloc hba _, box_new _ _ _ rfl⟩
      · intro K hK; go_simp; refine hK.out _ _ (by repeat (first | exact below_refl _ | apply below_alloc | apply below_drew | apply below_drewN)) ?_
        refine ord_g (by rfl) (by rfl) ?_; intro K hK
        go_simp
        refine (sField _ _ _ _ _ _ (hrc.keep (by repeat (first | exact below_refl _ | apply below_alloc | apply below_drew | apply below_drewN)))).mono ?_
        rintro e wa ⟨rfl, hba⟩
        have hbx := (box_new wc [.int .i64 0, .string ⟨#[]⟩, .int .i64 0, .int .i64 0] 53 rfl).keep (below_of (by repeat (first | exact below_refl _ | apply below_alloc | apply below_drew | apply below_drewN)) hba)
        have hba := below_of (by exact (by repeat (first | exact below_refl _ | apply below_alloc | apply below_drew | apply below_drewN)) : Below wc.heap.size wc ((wc.alloc (.cells #[.int .i64 0, .string ⟨#[]⟩, .int .i64 0, .int .i64 0] 53)).drew)) hba
        refine hK.out _ _ hba ?_
        have hbxz := hbx.lt; have hbxc0 := hbx.cell 0 _ rfl; have hbxf0 := hbx.frozen 0; have hbxc1 := hbx.cell 1 _ rfl; have hbxf1 := hbx.frozen 1; have hbxc2 := hbx.cell 2 _ rfl; have hbxf2 := hbx.frozen 2; have hbxc3 := hbx.cell 3 _ rfl; have hbxf3 := hbx.frozen 3
        repeat (refine ord_q (v := ?_) rfl (by rfl) ?_ ?_; rotate_left; (focus (intro w' hS; go_simp; exact rfl)); simp only [Act.put, List.setIfInBounds_toArray, List.set_cons_zero, List.set_cons_succ])
        refine ord_g (by rfl) (by rfl) ?_; intro K hK; go_simp; refine hK.out _ _ (below_set (below_set (below_set (below_set hba (Nat.le_refl _) _) (Nat.le_refl _) _) (Nat.le_refl _) _) (Nat.le_refl _) _) ?_
        refine ord_l (by rfl) rfl (by rfl) ?_; intro K hK; go_simp; refine hK.out _ _ ?_
        refine ord_e ?_
        go_wp2
        go_meet
        case rel => exact ⟨_, rfl, rfl, Nat.le_refl _, below_set (below_set (below_set (below_set hba (Nat.le_refl _) _) (Nat.le_refl _) _) (Nat.le_refl _) _) (Nat.le_refl _) _, (((hbx.set 0 _).set 1 _).set 2 _).set 3 _⟩
    case rest =>
      obtain ⟨b7, rfl, rfl, hb7, HBd, n7⟩ := hcut
      have hfid := @has_id l c.id
      have hgid := @has_id l c.wit
      generalize hF : getF l c.id = f at *
      generalize hH : hasF l c.id = has at *
      generalize hF2 : getF l c.wit = g at *
      generalize hH2 : hasF l c.wit = has2 at *
      have n3 := m3.keep HBd
      have nb := mb.keep HBd
      have n5 := m5.keep HBd
      have hBd := below_of hBc HBd
      have HOd := HO.kept hBd
      have hrd := hr.keep hBd
      clear m3c0 m3c1 m3c2 m3c3 m3c4 m3c5 m3c6 m3c7 mbc0 mbc1
      have n3z := n3.lt; have n3c0 := n3.cell 0 _ rfl; have n3c1 := n3.cell 1 _ rfl; have n3c2 := n3.cell 2 _ rfl; have n3c3 := n3.cell 3 _ rfl; have n3c4 := n3.cell 4 _ rfl; have n3c5 := n3.cell 5 _ rfl; have n3c6 := n3.cell 6 _ rfl; have n3c7 := n3.cell 7 _ rfl; have nbz := nb.lt; have nbc0 := nb.cell 0 _ rfl; have nbc1 := nb.cell 1 _ rfl; have n5z := n5.lt; have n5c0 := n5.cell 0 _ rfl; have n5c1 := n5.cell 1 _ rfl; have n5c2 := n5.cell 2 _ rfl; have n5c3 := n5.cell 3 _ rfl; have n7z := n7.lt; have n7c0 := n7.cell 0 _ rfl; have n7c1 := n7.cell 1 _ rfl; have n7c2 := n7.cell 2 _ rfl; have n7c3 := n7.cell 3 _ rfl
      have hbad : ∀ (r : Int × List Fld × Int) (e : Int) (w' : World), r = bad e → e ≠ 0 → Below w.heap.size w w' → RetX w b base r (.returned (.int .i64 e)) w' := fun r e w' h1 h2 h3 => retX_bad h1 h2 (h3.mono hbw2)
      cases has
      · go_wp2
        exact end_tmp rfl rfl rfl (hbad _ _ _ (by unfold joinR; rw [hH]; (repeat (first | (refine (if_pos ?_).trans ?_; (focus (first | assumption | omega | (simp [*]; done)))) | (refine (if_neg ?_).trans ?_; (focus (first | assumption | omega | (simp [*]; done)))))); try (first | rfl | (simp [*]; done))) (by decide) hBd)
      cases has2
      · go_wp2
        exact end_tmp rfl rfl rfl (hbad _ _ _ (by unfold joinR; rw [hH, hH2]; (repeat (first | (refine (if_pos ?_).trans ?_; (focus (first | assumption | omega | (simp [*]; done)))) | (refine (if_neg ?_).trans ?_; (focus (first | assumption | omega | (simp [*]; done)))))); try (first | rfl | (simp [*]; done))) (by decide) hBd)
      have hid : f.id = c.id := hfid rfl
      have hid2 : g.id = c.wit := hgid rfl
      clear hfid hgid
      have ht1 := Lib.hid (taken_two l c.name f.par c.id c.wit)
      have hsz : base ≤ wc.heap.size := by have := hBd.size; omega
      go_upto_region 11 with (go_at_call 63; refine (sSep _ _ hs3).mono ?_; rintro e w3 ⟨rfl, hww⟩; rw [hww])
      any_goals exact end_tmp rfl rfl rfl (hbad _ _ _ (by unfold joinR; rw [hH, hF, hH2, hF2, hid, hid2]; (repeat (first | (refine (if_pos ?_).trans ?_; (focus (first | assumption | omega | (simp [*]; done)))) | (refine (if_neg ?_).trans ?_; (focus (first | assumption | omega | (simp [*]; done)))))); try (first | rfl | (simp [*]; done))) (by decide) hBd)
      have hbo := HO.lt
      have hn3 : w.heap.size ≠ b := by omega
      have hn5 : b5 ≠ b := by have := hB.size; omega
      have ho3 : some w.heap.size ≠ (Value.slice Av l.length cv).ownBlock := fun e => by have := hbo _ e.symm; omega
      have ho5 : some b5 ≠ (Value.slice Av l.length cv).ownBlock := fun e => by have := hbo _ e.symm; have := hB.size; omega
      have hlf : (l.filter (keepP c.id)).length ≤ 900 := Nat.le_trans (List.length_filter_le _ _) hl
      have hlf1 : (l.filter (keepP c.id)).length ≤ 1000 := by omega
      have hlf2 : ((l.filter (keepP c.id)).filter (keepP c.wit)).length ≤ 1000 := by have := List.length_filter_le (keepP c.wit) (l.filter (keepP c.id)); omega
      have hl1 : l.length ≤ 1000 := by omega
      have hn1 : 0 ≤ nx ∧ nx ≤ 1000000000000 := by omega
      go_upto_region 13 with (go_at_call 56; refine (sTaken b Av cv l nx f.par _ _ _ [c.id, c.wit] _ (nb.keep (by repeat (first | exact below_refl _ | apply below_alloc | apply below_drew | apply below_drewN))) (hrd.keep (by repeat (first | exact below_refl _ | apply below_alloc | apply below_drew | apply below_drewN))) (rdI_box (xs := [c.id, c.wit]) (box_new _ [.int .i64 c.id, .int .i64 c.wit] _ rfl) (by simp)) hs1).mono ?_; rintro e w2 ⟨rfl, hb2⟩; rw [ht1.out]; have k3 := (n3.keep (by repeat (first | exact below_refl _ | apply below_alloc | apply below_drew | apply below_drewN))).keep hb2; have kb := (nb.keep (by repeat (first | exact below_refl _ | apply below_alloc | apply below_drew | apply below_drewN))).keep hb2; have k5 := (n5.keep (by repeat (first | exact below_refl _ | apply below_alloc | apply below_drew | apply below_drewN))).keep hb2; have HOk := (HOd.kept (by repeat (first | exact below_refl _ | apply below_alloc | apply below_drew | apply below_drewN))).kept hb2; have hBk := below_of (below_of hBd (by repeat (first | exact below_refl _ | apply below_alloc | apply below_drew | apply below_drewN))) hb2; have k3z := k3.lt; have k3c0 := k3.cell 0 _ rfl; have k3c1 := k3.cell 1 _ rfl; have k3c2 := k3.cell 2 _ rfl; have k3c3 := k3.cell 3 _ rfl; have k3c4 := k3.cell 4 _ rfl; have k3c5 := k3.cell 5 _ rfl; have k3c6 := k3.cell 6 _ rfl; have k3c7 := k3.cell 7 _ rfl; have kbz := kb.lt; have kbc0 := kb.cell 0 _ rfl; have kbc1 := kb.cell 1 _ rfl; have k5z := k5.lt; have k5c0 := k5.cell 0 _ rfl; have k5c1 := k5.cell 1 _ rfl; have k5c2 := k5.cell 2 _ rfl; have k5c3 := k5.cell 3 _ rfl)
      · exact end_tmp rfl rfl rfl (hbad _ _ _ (by unfold joinR; rw [hH, hF, hH2, hF2, hid, hid2]; (repeat (first | (refine (if_pos ?_).trans ?_; (focus (first | assumption | omega | (simp [*]; done)))) | (refine (if_neg ?_).trans ?_; (focus (first | assumption | omega | (simp [*]; done)))))); try (first | rfl | (simp [*]; done))) (by decide) hBk)
      by_cases hnx : nx ≥ 1073741824
      · go_wp2
        exact end_tmp rfl rfl rfl (hbad _ _ _ (by unfold joinR; rw [hH, hF, hH2, hF2, hid, hid2]; (repeat (first | (refine (if_pos ?_).trans ?_; (focus (first | assumption | omega | (simp [*]; done)))) | (refine (if_neg ?_).trans ?_; (focus (first | assumption | omega | (simp [*]; done)))))); try (first | rfl | (simp [*]; done))) (by decide) hBk)
      have hv : joinR l nx c = (0, plusR ((l.filter (keepP c.id)).filter (keepP c.wit)) nx ⟨0, c.name, 4, f.par⟩, nx + 1) := by rw [keep_two]; unfold joinR; rw [hH, hF, hH2, hF2, hid, hid2]; (repeat (first | (refine (if_pos ?_).trans ?_; (focus (first | assumption | omega | (simp [*]; done)))) | (refine (if_neg ?_).trans ?_; (focus (first | assumption | omega | (simp [*]; done)))))); try (first | rfl | (simp [*]; done))
      have hvh := Lib.hid hv
      clear hv
      have hst3 : StV _ b base _ l nx := ⟨kb, HOk⟩
      go_wp2_with (first
        | (go_at_call 61; (with_reducible refine (sRemove b base _ l nx c.id _ hst3 hbb hl1).mono ?_); rintro e w4 ⟨rfl, v4, hst4, hk4, hB4⟩; have p3 := hk4.box k3 hn3 ho3; have p5 := hk4.box k5 hn5 ho5; have r3 := p3.1; have r5 := p5.1; have r3z := r3.lt; have r3c0 := r3.cell 0 _ rfl; have r3c1 := r3.cell 1 _ rfl; have r3c2 := r3.cell 2 _ rfl; have r3c3 := r3.cell 3 _ rfl; have r3c4 := r3.cell 4 _ rfl; have r3c5 := r3.cell 5 _ rfl; have r3c6 := r3.cell 6 _ rfl; have r3c7 := r3.cell 7 _ rfl; have r5z := r5.lt; have r5c0 := r5.cell 0 _ rfl; have r5c1 := r5.cell 1 _ rfl; have r5c2 := r5.cell 2 _ rfl; have r5c3 := r5.cell 3 _ rfl)
        | (go_at_call 61; (with_reducible refine (sRemove b base v4 (l.filter (keepP c.id)) nx c.wit _ hst4 hbb hlf1).mono ?_); rintro e w5 ⟨rfl, v5, hst5, hk5, hB5⟩; have s3 := hk5.box r3 hn3 p3.2; have s5 := hk5.box r5 hn5 p5.2; have t3 := s3.1; have t5 := s5.1; have t3z := t3.lt; have t3c0 := t3.cell 0 _ rfl; have t3c1 := t3.cell 1 _ rfl; have t3c2 := t3.cell 2 _ rfl; have t3c3 := t3.cell 3 _ rfl; have t3c4 := t3.cell 4 _ rfl; have t3c5 := t3.cell 5 _ rfl; have t3c6 := t3.cell 6 _ rfl; have t3c7 := t3.cell 7 _ rfl; have t5z := t5.lt; have t5c0 := t5.cell 0 _ rfl; have t5c1 := t5.cell 1 _ rfl; have t5c2 := t5.cell 2 _ rfl; have t5c3 := t5.cell 3 _ rfl)
        | (go_at_call 58; (with_reducible refine (sPlus b base v5 ((l.filter (keepP c.id)).filter (keepP c.wit)) nx c.name 4 f.par _ hst5 hbb hlf2 hn1).mono ?_); rintro e w6 ⟨rfl, v6, hst6, hk6, hB6⟩))
      exact end_tmp rfl rfl rfl (by rw [hvh.out]; exact ⟨rfl, fun _ => ⟨_, hst6⟩, (((hBk.mono hbw2).trans hB4).trans hB5).trans hB6⟩)
end Go.Proofs.Ythcphdgfdkgimaa
