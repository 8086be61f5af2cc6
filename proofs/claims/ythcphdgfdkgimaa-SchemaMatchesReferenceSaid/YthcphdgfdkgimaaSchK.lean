/- Package schema, part K: add. -/
import Derived.Test.YthcphdgfdkgimaaSchJ
import Derived.Deep.DeepCutAuto
set_option linter.unusedSimpArgs false
set_option linter.unusedVariables false
namespace Go.Proofs.Ythcphdgfdkgimaa
open Go.RowKit
/-- A method's end: the error; the state where there is none. -/
def RetX (w0 : World) (b base : Nat) (r : Int × List Fld × Int) (e : Ending) (w' : World) : Prop := e = .returned (.int .i64 r.1) ∧ (r.1 = 0 → St w' b base r.2.1 r.2.2) ∧ Below base w0 w'
theorem retX_bad {w0 w' : World} {b base : Nat} {r : Int × List Fld × Int} {e : Int} (hv : r = bad e) (he : e ≠ 0) (hB : Below base w0 w') : RetX w0 b base r (.returned (.int .i64 e)) w' := by
  subst hv; exact ⟨rfl, fun h => absurd h he, hB⟩
set_option maxRecDepth 100000 in
set_option maxHeartbeats 1600000 in
theorem sAdd (b base : Nat) (l : List Fld) (nx : Int) (c : Chg) (w : World) (hst : St w b base l nx) (hbb : base ≤ b) (hl : l.length ≤ 900) (hn : 0 ≤ nx ∧ nx ≤ 100000000000) (hN : Nums l nx) (hs : c.name.size ≤ 9223372036854775807) :
    Calls Try.prog 35 #[.pointer (some ⟨b, 0, none⟩), chgV c] w (RetX w b base (addR l nx c)) := by
  obtain ⟨v, hb0, HO⟩ := hst
  obtain ⟨Av, cv, rfl, hcv, hr, hfv⟩ := HO.rd Fld.len (by omega)
  have hbw := hb0.lt
  have hdeep := Lib.hid (anc_deep l c.par)
  have htk := Lib.hid (taken_none hN c.name c.par)
  go_enter Try.func35, Try.ntmps35
  go_upto_region 1 with (fail)
  refine wp_letter ?_
  intro W hW
  have h3 : Box W w.heap.size c.enc 43 := by subst hW; exact box_new _ _ _ rfl
  have hB : Below w.heap.size w W := by subst hW; exact (by repeat (first | exact below_refl _ | apply below_alloc | apply below_drew | apply below_drewN))
  clear hW
  have hb1 := hb0.keep hB
  have h3z := h3.lt; have h3c0 := h3.cell 0 _ rfl; have h3c1 := h3.cell 1 _ rfl; have h3c2 := h3.cell 2 _ rfl; have h3c3 := h3.cell 3 _ rfl; have h3c4 := h3.cell 4 _ rfl; have h3c5 := h3.cell 5 _ rfl; have h3c6 := h3.cell 6 _ rfl; have h3c7 := h3.cell 7 _ rfl; have hb1z := hb1.lt; have hb1c0 := hb1.cell 0 _ rfl; have hb1c1 := hb1.cell 1 _ rfl
  go_cut [5, 6] (fun p q wc => ∃ (A1 : Option Addr) (c1 : Nat), p = .slice A1 (ancR l c.par).1.length c1 ∧ q = .bool ((ancR l c.par).2 == 0) ∧ Below W.heap.size W wc)
  case first =>
    refine region_ord (fun w' => Below W.heap.size W w') [11] (.q 0 (.q 1 (.q 2 (.q 3 (.q 4 (.q 5 (.g 6 (.q 7 (.q 8 (.q 9 (.g 10 (.g 11 .e)))))))))))) (by kernel_rfl) (by kernel_rfl) (fun _ _ d _ _ h => by cases d <;> exact h) (by repeat (first | exact below_refl _ | apply below_alloc | apply below_drew | apply below_drewN)) ?_
    repeat (refine ord_q (v := ?_) rfl (by rfl) ?_ ?_; rotate_left; (focus (intro w' hS; have s0 := cell_keep hS hb1c0; have s1 := cell_keep hS hb1c1; have s2 := cell_keep hS h3c6; go_simp; exact rfl)); simp only [Act.put, List.setIfInBounds_toArray, List.set_cons_zero, List.set_cons_succ])
    refine ord_g (by rfl) (by rfl) ?_; intro K hK
    go_simp
    refine (sAnc _ _ _ _ _ _ ((hr.keep hB).keep (by repeat (first | exact below_refl _ | apply below_alloc | apply below_drew | apply below_drewN)))).mono ?_
    rintro e wa ⟨A1, c1, rfl, hc1, hr1, hf1, hba⟩
    have hba := below_of (by exact (by repeat (first | exact below_refl _ | apply below_alloc | apply below_drew | apply below_drewN)) : Below W.heap.size W W.drew) hba
    refine hK.out _ _ hba ?_
    repeat (refine ord_q (v := ?_) rfl (by rfl) ?_ ?_; rotate_left; (focus (intro w' hS; go_simp; exact rfl)); simp only [Act.put, List.setIfInBounds_toArray, List.set_cons_zero, List.set_cons_succ])
    refine ord_g (by rfl) (by rfl) ?_; intro K hK; go_simp; refine hK.out _ _ hba ?_
    refine ord_l (by rfl) rfl (by rfl) ?_; intro K hK; go_simp; refine hK.out _ _ ?_
    refine ord_e ?_
    go_wp2
    go_meet
    case rel => exact ⟨_, _, rfl, rfl, hba⟩
  case rest =>
    obtain ⟨A1, c1, rfl, rfl, HBc⟩ := hcut
    generalize hA1 : (ancR l c.par).1.length = an at *
    generalize hA2 : ((ancR l c.par).2 == 0) = ao at *
    have m3 := h3.keep HBc
    have mb := hb1.keep HBc
    have hBc := below_of hB HBc
    have m3z := m3.lt; have m3c0 := m3.cell 0 _ rfl; have m3c1 := m3.cell 1 _ rfl; have m3c2 := m3.cell 2 _ rfl; have m3c3 := m3.cell 3 _ rfl; have m3c4 := m3.cell 4 _ rfl; have m3c5 := m3.cell 5 _ rfl; have m3c6 := m3.cell 6 _ rfl; have m3c7 := m3.cell 7 _ rfl; have mbz := mb.lt; have mbc0 := mb.cell 0 _ rfl; have mbc1 := mb.cell 1 _ rfl
    have hbw2 : base ≤ w.heap.size := by omega
    by_cases ht1 : c.ty < 1
    · go_wp2
      exact end_tmp rfl rfl rfl (retX_bad (by unfold addR; (repeat (first | (refine (if_pos ?_).trans ?_; (focus (first | assumption | omega | (simp [*]; done)))) | (refine (if_neg ?_).trans ?_; (focus (first | assumption | omega | (simp [*]; done)))))); try (first | rfl | (simp [*]; done))) (by decide) (hBc.mono hbw2))
    by_cases ht2 : c.ty > 6
    · go_wp2
      exact end_tmp rfl rfl rfl (retX_bad (by unfold addR; (repeat (first | (refine (if_pos ?_).trans ?_; (focus (first | assumption | omega | (simp [*]; done)))) | (refine (if_neg ?_).trans ?_; (focus (first | assumption | omega | (simp [*]; done)))))); try (first | rfl | (simp [*]; done))) (by decide) (hBc.mono hbw2))
    have ht3 : 1 ≤ c.ty := by omega
    have ht4 : c.ty ≤ 6 := by omega
    go_upto_region 4 with (fail)
    cases hg : grp l c.par
    · have hG : ∀ w', RdF w' Av l → Calls Try.prog 50 #[.agg #[.slice Av l.length cv, .int .i64 nx], .int .i64 c.par] w' fun e w'' => e = .returned (.bool false) ∧ Below w'.heap.size w' w'' := fun w' h => by rw [← hg]; exact sGroup _ _ _ _ _ _ h
      refine region_below (by kernel_rfl) (by kernel_rfl) ?_; (repeat (first | (refine quiet_on (v := ?_) (by rfl) ?_ ?_; rotate_left; (focus (intro w' hS; have s0 := cell_keep hS mbc0; have s1 := cell_keep hS mbc1; have s2 := cell_keep hS m3c6; go_simp; first | exact rfl | (refine (hG _ ((hr.keep hBc).keep hS)).mono ?_; rintro e w1 ⟨rfl, hb⟩; refine ⟨?_, below_of hS hb⟩; exact rfl))); simp only [Act.put, List.setIfInBounds_toArray, List.set_cons_zero, List.set_cons_succ]) | (refine quiet_off (by rfl) ?_; simp only [Act.put, List.setIfInBounds_toArray, List.set_cons_zero, List.set_cons_succ]))); refine wpQuiet_nil ?_; intro wq hq; try dsimp only
      go_wp2
      exact end_tmp rfl rfl rfl (retX_bad (by unfold addR; (repeat (first | (refine (if_pos ?_).trans ?_; (focus (first | assumption | omega | (simp [*]; done)))) | (refine (if_neg ?_).trans ?_; (focus (first | assumption | omega | (simp [*]; done)))))); try (first | rfl | (simp [*]; done))) (by decide) ((below_of hBc hq).mono hbw2))
    · have hG : ∀ w', RdF w' Av l → Calls Try.prog 50 #[.agg #[.slice Av l.length cv, .int .i64 nx], .int .i64 c.par] w' fun e w'' => e = .returned (.bool true) ∧ Below w'.heap.size w' w'' := fun w' h => by rw [← hg]; exact sGroup _ _ _ _ _ _ h
      cases ao
      · have hd : depthR l 9 c.par ≥ 8 := by have := hdeep.out; simpa using this
        refine region_below (by kernel_rfl) (by kernel_rfl) ?_; (repeat (first | (refine quiet_on (v := ?_) (by rfl) ?_ ?_; rotate_left; (focus (intro w' hS; have s0 := cell_keep hS mbc0; have s1 := cell_keep hS mbc1; have s2 := cell_keep hS m3c6; go_simp; first | exact rfl | (refine (hG _ ((hr.keep hBc).keep hS)).mono ?_; rintro e w1 ⟨rfl, hb⟩; refine ⟨?_, below_of hS hb⟩; exact rfl))); simp only [Act.put, List.setIfInBounds_toArray, List.set_cons_zero, List.set_cons_succ]) | (refine quiet_off (by rfl) ?_; simp only [Act.put, List.setIfInBounds_toArray, List.set_cons_zero, List.set_cons_succ]))); refine wpQuiet_nil ?_; intro wq hq; try dsimp only
        go_wp2
        exact end_tmp rfl rfl rfl (retX_bad (by unfold addR; (repeat (first | (refine (if_pos ?_).trans ?_; (focus (first | assumption | omega | (simp [*]; done)))) | (refine (if_neg ?_).trans ?_; (focus (first | assumption | omega | (simp [*]; done)))))); try (first | rfl | (simp [*]; done))) (by decide) ((below_of hBc hq).mono hbw2))
      · by_cases h8 : 8 ≤ (an : Int)
        · have hd : depthR l 9 c.par ≥ 8 := by have := hdeep.out; simpa [h8] using this
          have h8' : decide (8 ≤ (an : Int)) = true := by simpa using h8
          refine region_below (by kernel_rfl) (by kernel_rfl) ?_; (repeat (first | (refine quiet_on (v := ?_) (by rfl) ?_ ?_; rotate_left; (focus (intro w' hS; have s0 := cell_keep hS mbc0; have s1 := cell_keep hS mbc1; have s2 := cell_keep hS m3c6; go_simp; first | exact rfl | (refine (hG _ ((hr.keep hBc).keep hS)).mono ?_; rintro e w1 ⟨rfl, hb⟩; refine ⟨?_, below_of hS hb⟩; exact rfl))); simp only [Act.put, List.setIfInBounds_toArray, List.set_cons_zero, List.set_cons_succ]) | (refine quiet_off (by rfl) ?_; simp only [Act.put, List.setIfInBounds_toArray, List.set_cons_zero, List.set_cons_succ]))); refine wpQuiet_nil ?_; intro wq hq; try dsimp only
          go_wp2
          exact end_tmp rfl rfl rfl (retX_bad (by unfold addR; (repeat (first | (refine (if_pos ?_).trans ?_; (focus (first | assumption | omega | (simp [*]; done)))) | (refine (if_neg ?_).trans ?_; (focus (first | assumption | omega | (simp [*]; done)))))); try (first | rfl | (simp [*]; done))) (by decide) ((below_of hBc hq).mono hbw2))
        · have hd : ¬ depthR l 9 c.par ≥ 8 := by have := hdeep.out; simpa [h8] using this
          have h8' : decide (8 ≤ (an : Int)) = false := by simpa using h8
          refine region_below (by kernel_rfl) (by kernel_rfl) ?_; (repeat (first | (refine quiet_on (v := ?_) (by rfl) ?_ ?_; rotate_left; (focus (intro w' hS; have s0 := cell_keep hS mbc0; have s1 := cell_keep hS mbc1; have s2 := cell_keep hS m3c6; go_simp; first | exact rfl | (refine (hG _ ((hr.keep hBc).keep hS)).mono ?_; rintro e w1 ⟨rfl, hb⟩; refine ⟨?_, below_of hS hb⟩; exact rfl))); simp only [Act.put, List.setIfInBounds_toArray, List.set_cons_zero, List.set_cons_succ]) | (refine quiet_off (by rfl) ?_; simp only [Act.put, List.setIfInBounds_toArray, List.set_cons_zero, List.set_cons_succ]))); refine wpQuiet_nil ?_; intro wq hq; try dsimp only
          have hBq := below_of hBc hq
          have q3 := m3.keep hq
          have qb := mb.keep hq
          have HOq := HO.kept hBq
          have hrq := hr.keep hBq
          have q3z := q3.lt; have q3c0 := q3.cell 0 _ rfl; have q3c1 := q3.cell 1 _ rfl; have q3c2 := q3.cell 2 _ rfl; have q3c3 := q3.cell 3 _ rfl; have q3c4 := q3.cell 4 _ rfl; have q3c5 := q3.cell 5 _ rfl; have q3c6 := q3.cell 6 _ rfl; have q3c7 := q3.cell 7 _ rfl; have qbz := qb.lt; have qbc0 := qb.cell 0 _ rfl; have qbc1 := qb.cell 1 _ rfl
          go_wp2_with (first
            | (go_at_call 56; refine (sTaken b Av cv l nx c.par c.name none 0 [] _ qb hrq (Rd.nil _ _ _ _) hs).mono ?_; rintro e w2 ⟨rfl, hb2⟩; rw [htk.out]; have p3 := q3.keep hb2; have pb := qb.keep hb2; have HOp := HOq.kept hb2; have hBp := below_of hBq hb2; have p3z := p3.lt; have p3c0 := p3.cell 0 _ rfl; have p3c1 := p3.cell 1 _ rfl; have p3c2 := p3.cell 2 _ rfl; have p3c3 := p3.cell 3 _ rfl; have p3c4 := p3.cell 4 _ rfl; have p3c5 := p3.cell 5 _ rfl; have p3c6 := p3.cell 6 _ rfl; have p3c7 := p3.cell 7 _ rfl; have pbz := pb.lt; have pbc0 := pb.cell 0 _ rfl; have pbc1 := pb.cell 1 _ rfl)
            | (go_at_call 57; refine (sFull b Av cv l nx 1 _ pb (by omega)).mono ?_; rintro e w3 ⟨rfl, hww⟩; rw [hww])
            | (go_at_call 58; refine (sPlus b base _ l nx c.name c.ty c.par _ ⟨pb, HOp⟩ hbb (by omega) (by omega)).mono ?_; rintro e w4 ⟨rfl, v4, hst4, hk4, hB4⟩))
          · exact end_tmp rfl rfl rfl (retX_bad (by unfold addR; (repeat (first | (refine (if_pos ?_).trans ?_; (focus (first | assumption | omega | (simp [*]; done)))) | (refine (if_neg ?_).trans ?_; (focus (first | assumption | omega | (simp [*]; done)))))); try (first | rfl | (simp [*]; done))) (by decide) (hBp.mono hbw2))
          · exact end_tmp rfl rfl rfl (retX_bad (by
              unfold addR
              by_cases hh : (l.length : Int) ≥ 64
              · (repeat (first | (refine (if_pos ?_).trans ?_; (focus (first | assumption | omega | (simp [*]; done)))) | (refine (if_neg ?_).trans ?_; (focus (first | assumption | omega | (simp [*]; done)))))); try (first | rfl | (simp [*]; done))
              · (repeat (first | (refine (if_pos ?_).trans ?_; (focus (first | assumption | omega | (simp [*]; done)))) | (refine (if_neg ?_).trans ?_; (focus (first | assumption | omega | (simp [*]; done)))))); try (first | rfl | (simp [*]; done))) (by decide) (hBp.mono hbw2))
          · have hv : addR l nx c = (0, plusR l nx ⟨0, c.name, c.ty, c.par⟩, nx + 1) := by unfold addR; (repeat (first | (refine (if_pos ?_).trans ?_; (focus (first | assumption | omega | (simp [*]; done)))) | (refine (if_neg ?_).trans ?_; (focus (first | assumption | omega | (simp [*]; done)))))); try (first | rfl | (simp [*]; done))
            exact end_tmp rfl rfl rfl (by rw [hv]; exact ⟨rfl, fun _ => ⟨_, hst4⟩, (hBp.mono hbw2).trans hB4⟩)
end Go.Proofs.Ythcphdgfdkgimaa
