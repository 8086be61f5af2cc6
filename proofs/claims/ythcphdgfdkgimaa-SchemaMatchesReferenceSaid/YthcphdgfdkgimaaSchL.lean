/- Package schema, part L: drop. -/
import Derived.Test.YthcphdgfdkgimaaSchK
set_option linter.unusedSimpArgs false
set_option linter.unusedVariables false
namespace Go.Proofs.Ythcphdgfdkgimaa
open Go.RowKit
theorem first_has (l : List Fld) (id : Int) : (firstR (fun g : Fld => g.id == id) l < 0 ∧ hasF l id = false) ∨ (∃ j : Nat, firstR (fun g : Fld => g.id == id) l = j ∧ ∃ h : j < l.length, hasF l id = true ∧ getF l id = l[j] ∧ l[j].id = id) := by
  rcases firstGo_find (fun g : Fld => g.id == id) l 0 with ⟨e1, e2⟩ | ⟨j, e1, hj, e2⟩
  · exact .inl ⟨by unfold firstR; rw [e1]; decide, by unfold hasF findF; rw [e2]; rfl⟩
  · refine .inr ⟨j, by unfold firstR; rw [e1]; simp, hj, by unfold hasF findF; rw [e2]; rfl, by unfold getF findF; rw [e2]; rfl, ?_⟩
    have := List.find?_some e2
    simpa using this
theorem keep_without (l : List Fld) (id : Int) : l.filter (keepP id) = withoutR l id id := by
  unfold withoutR; congr 1; funext f; simp [keepP, withoutP, bne]
set_option maxRecDepth 100000 in
set_option maxHeartbeats 1600000 in
theorem sDrop (b base : Nat) (l : List Fld) (nx : Int) (c : Chg) (w : World) (hst : St w b base l nx) (hbb : base ≤ b) (hl : l.length ≤ 900) (hk : c.kind = 2) :
    Calls Try.prog 36 #[.pointer (some ⟨b, 0, none⟩), chgV c] w (RetX w b base (oneR l nx c)) := by
  obtain ⟨v, hb0, HO⟩ := hst
  obtain ⟨Av, cv, rfl, hcv, hr, hfv⟩ := HO.rd Fld.len (by omega)
  have hbw := hb0.lt
  have hbw2 : base ≤ w.heap.size := by omega
  have hk2 := Lib.hid hk
  clear hk
  go_enter Try.func36, Try.ntmps36
  go_upto_region 1 with (fail)
  refine wp_letter ?_
  intro W hW
  have h3 : Box W w.heap.size c.enc 43 := by subst hW; exact box_new _ _ _ rfl
  have hB : Below w.heap.size w W := by subst hW; exact (by repeat (first | exact below_refl _ | apply below_alloc | apply below_drew | apply below_drewN))
  clear hW
  have hb1 := hb0.keep hB
  have h3z := h3.lt; have h3c0 := h3.cell 0 _ rfl; have h3c1 := h3.cell 1 _ rfl; have h3c2 := h3.cell 2 _ rfl; have h3c3 := h3.cell 3 _ rfl; have h3c4 := h3.cell 4 _ rfl; have h3c5 := h3.cell 5 _ rfl; have h3c6 := h3.cell 6 _ rfl; have h3c7 := h3.cell 7 _ rfl; have hb1z := hb1.lt; have hb1c0 := hb1.cell 0 _ rfl; have hb1c1 := hb1.cell 1 _ rfl
  refine region_below (by kernel_rfl) (by kernel_rfl) ?_; (repeat (first | (refine quiet_on (v := ?_) (by rfl) ?_ ?_; rotate_left; (focus (intro w' hS; have s0 := cell_keep hS hb1c0; have s1 := cell_keep hS hb1c1; have s2 := cell_keep hS h3c1; go_simp; first | exact rfl | (refine (sIndex _ _ _ _ _ _ ((hr.keep hB).keep hS)).mono ?_; rintro e w1 ⟨rfl, hb⟩; refine ⟨?_, below_of hS hb⟩; exact rfl))); simp only [Act.put, List.setIfInBounds_toArray, List.set_cons_zero, List.set_cons_succ]) | (refine quiet_off (by rfl) ?_; simp only [Act.put, List.setIfInBounds_toArray, List.set_cons_zero, List.set_cons_succ]))); refine wpQuiet_nil ?_; intro wq hq; try dsimp only
  have hBq := below_of hB hq
  have q3 := h3.keep hq
  have qb := hb1.keep hq
  have HOq := HO.kept hBq
  have hrq := hr.keep hBq
  have q3z := q3.lt; have q3c0 := q3.cell 0 _ rfl; have q3c1 := q3.cell 1 _ rfl; have q3c2 := q3.cell 2 _ rfl; have q3c3 := q3.cell 3 _ rfl; have q3c4 := q3.cell 4 _ rfl; have q3c5 := q3.cell 5 _ rfl; have q3c6 := q3.cell 6 _ rfl; have q3c7 := q3.cell 7 _ rfl; have qbz := qb.lt; have qbc0 := qb.cell 0 _ rfl; have qbc1 := qb.cell 1 _ rfl
  rcases first_has l c.id with ⟨hf, hh⟩ | ⟨j, hf, hj, hh, hg, hid⟩
  · have hf' : decide (firstR (fun g : Fld => g.id == c.id) l < 0) = true := by simpa using hf
    go_wp2
    all_goals first
      | exact end_tmp rfl rfl rfl (retX_bad (by have hk := hk2.out; unfold oneR; rw [hh]; (repeat (first | (refine (if_pos ?_).trans ?_; (focus (first | assumption | omega | (simp [*]; done)))) | (refine (if_neg ?_).trans ?_; (focus (first | assumption | omega | (simp [*]; done)))))); try (first | rfl | (simp [*]; done))) (by decide) (hBq.mono hbw2))
      | (exfalso; omega)
  · rw [hf]
    have hj0 : (0 : Int) ≤ (j : Int) := by omega
    go_wp2_with (first
      | (go_at_call 59; refine (sDropCF _ _ l w.heap.size 0 c.id _ hrq q3c1).mono ?_; rintro e w2 ⟨rfl, hb2⟩; have p3 := q3.keep hb2; have pb := qb.keep hb2; have HOp := HOq.kept hb2; have hBp := below_of hBq hb2; have p3z := p3.lt; have p3c0 := p3.cell 0 _ rfl; have p3c1 := p3.cell 1 _ rfl; have p3c2 := p3.cell 2 _ rfl; have p3c3 := p3.cell 3 _ rfl; have p3c4 := p3.cell 4 _ rfl; have p3c5 := p3.cell 5 _ rfl; have p3c6 := p3.cell 6 _ rfl; have p3c7 := p3.cell 7 _ rfl; have pbz := pb.lt; have pbc0 := pb.cell 0 _ rfl; have pbc1 := pb.cell 1 _ rfl)
      | (go_at_call 61; refine (sRemove b base _ l nx c.id _ ⟨pb, HOp⟩ hbb (by omega)).mono ?_; rintro e w4 ⟨rfl, v4, hst4, hk4, hB4⟩))
    · exact end_tmp rfl rfl rfl (retX_bad (by have hk := hk2.out; unfold oneR; rw [hh, hg, hid]; (repeat (first | (refine (if_pos ?_).trans ?_; (focus (first | assumption | omega | (simp [*]; done)))) | (refine (if_neg ?_).trans ?_; (focus (first | assumption | omega | (simp [*]; done)))))); try (first | rfl | (simp [*]; done))) (by decide) (hBp.mono hbw2))
    · have hv : oneR l nx c = (0, l.filter (keepP c.id), nx) := by have hk := hk2.out; rw [keep_without]; unfold oneR; rw [hh, hg, hid]; (repeat (first | (refine (if_pos ?_).trans ?_; (focus (first | assumption | omega | (simp [*]; done)))) | (refine (if_neg ?_).trans ?_; (focus (first | assumption | omega | (simp [*]; done)))))); try (first | rfl | (simp [*]; done))
      exact end_tmp rfl rfl rfl (by rw [hv]; exact ⟨rfl, fun _ => ⟨_, hst4⟩, (hBp.mono hbw2).trans hB4⟩)
end Go.Proofs.Ythcphdgfdkgimaa
