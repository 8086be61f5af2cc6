/- Package schema, part O: rename. -/
import Derived.Test.YthcphdgfdkgimaaSchN
set_option linter.unusedSimpArgs false
set_option linter.unusedVariables false
namespace Go.Proofs.Ythcphdgfdkgimaa
open Go.RowKit
theorem taken_one (l : List Fld) (nm : ByteArray) (par id : Int) : (!nameOk nm || l.any (takenQ nm par [id])) = takenR l nm par id id := by
  unfold takenR
  rw [Bool.or_comm]
  congr 1
  rw [Bool.eq_iff_iff, List.any_eq_true, List.any_eq_true]
  constructor
  · rintro ⟨f, hf, hp⟩
    exact ⟨f, hf, by simp [takenQ, takenP] at hp ⊢; exact hp⟩
  · rintro ⟨f, hf, hp⟩
    exact ⟨f, hf, by simp [takenQ, takenP] at hp ⊢; exact hp⟩
theorem rdI_box {w : World} {g : Nat} {xs : List Int} (h : Box w g (xs.map (fun x => Value.int .i64 x)) 3) (hl : xs.length ≤ 1000) : RdI w (some ⟨g, 0, none⟩) xs := by
  refine ⟨by omega, .inr ⟨g, 0, rfl, fun j x i u hj hi => ?_⟩⟩
  have hi0 : i = 0 := by
    rcases i with _ | i
    · rfl
    · simp at hi
  subst hi0
  have hu : u = .int .i64 x := by simpa using hi.symm
  subst hu
  exact h.cell _ _ (by simp [hj])
set_option maxRecDepth 100000 in
set_option maxHeartbeats 1600000 in
theorem sRename (b base : Nat) (l : List Fld) (nx : Int) (c : Chg) (w : World) (hst : St w b base l nx) (hbb : base ≤ b) (hl : l.length ≤ 900) (hN : Nums l nx) (hk : c.kind = 3) (hs : c.name.size ≤ 9223372036854775807) :
    Calls Try.prog 37 #[.pointer (some ⟨b, 0, none⟩), chgV c] w (RetX w b base (oneR l nx c)) := by
  obtain ⟨v, hb0, HO⟩ := hst
  obtain ⟨Av, cv, rfl, hcv, hr, hfv⟩ := HO.rd Fld.len (by omega)
  have hbw := hb0.lt
  have hbw2 : base ≤ w.heap.size := by omega
  have hk2 := Lib.hid hk
  clear hk
  go_enter Try.func37, Try.ntmps37
  go_upto_region 1 with (fail)
  refine wp_letter ?_
  intro W hW
  have h3 : Box W w.heap.size c.enc 43 := by subst hW; exact box_new _ _ _ rfl
  have hB : Below w.heap.size w W := by subst hW; exact (by repeat (first | exact below_refl _ | apply below_alloc | apply below_drew | apply below_drewN))
  clear hW
  have hb1 := hb0.keep hB
  have h3z := h3.lt; have h3c0 := h3.cell 0 _ rfl; have h3c1 := h3.cell 1 _ rfl; have h3c2 := h3.cell 2 _ rfl; have h3c3 := h3.cell 3 _ rfl; have h3c4 := h3.cell 4 _ rfl; have h3c5 := h3.cell 5 _ rfl; have h3c6 := h3.cell 6 _ rfl; have h3c7 := h3.cell 7 _ rfl; have hb1z := hb1.lt; have hb1c0 := hb1.cell 0 _ rfl; have hb1c1 := hb1.cell 1 _ rfl
  refine region_below (by kernel_rfl) (by kernel_rfl) ?_; (repeat (first | (refine quiet_on (v := ?_) (by rfl) ?_ ?_; rotate_left; (focus (intro w' hS; have s0 := cell_keep hS hb1c0; have s1 := cell_keep hS hb1c1; have s2 := cell_keep hS h3c1; go_simp; first | exact rfl | (refine (sIndex _ _ _ _ _ _ ((hr.keep hB).keep hS)).mono ?_; rintro e w1 ⟨rfl, hb⟩; refine ⟨?_, below_of hS hb⟩; exact rfl))); simp only [Act.put, List.setIfInBounds_toArray, List.set_cons_zero, List.set_cons_succ]) | (refine quiet_off (by rfl) ?_; simp only [Act.put, List.setIfInBounds_toArray, List.set_cons_zero, List.set_cons_succ]))); refine wpQuiet_nil ?_; intro wq hq; try dsimp only
  have hBq := below_of hB hq
  have q3 := h3.keep hq
  have qb := hb1.keep hq
  have HOq := HO.kept hBq
  have q3z := q3.lt; have q3c0 := q3.cell 0 _ rfl; have q3c1 := q3.cell 1 _ rfl; have q3c2 := q3.cell 2 _ rfl; have q3c3 := q3.cell 3 _ rfl; have q3c4 := q3.cell 4 _ rfl; have q3c5 := q3.cell 5 _ rfl; have q3c6 := q3.cell 6 _ rfl; have q3c7 := q3.cell 7 _ rfl; have qbz := qb.lt; have qbc0 := qb.cell 0 _ rfl; have qbc1 := qb.cell 1 _ rfl
  rcases first_has l c.id with ⟨hf, hh⟩ | ⟨j, hf, hj, hh, hg, hid⟩
  · go_wp2
    all_goals first
      | exact end_tmp rfl rfl rfl (retX_bad (by unfold oneR; rw [hh]; (repeat (first | (refine (if_pos ?_).trans ?_; (focus (first | assumption | omega | (simp [*]; done)))) | (refine (if_neg ?_).trans ?_; (focus (first | assumption | omega | (simp [*]; done)))))); try (first | rfl | (simp [*]; done))) (by decide) (hBq.mono hbw2))
      | (exfalso; omega)
  · rw [hf]
    have hj0 : (0 : Int) ≤ (j : Int) := by omega
    have hj1 : (j : Int) < (l.length : Int) := by omega
    obtain ⟨g, tail, rfl, hgb, hbx, hre⟩ := own_open HOq (by omega)
    obtain ⟨f0, f1, f2, f3⟩ := hbx.fld hj
    have hgz := hbx.lt
    have hrq := hr.keep hBq
    have hne : b ≠ g := by intro h; subst h; unfold Box at qb hbx; rw [qb] at hbx; simp at hbx
    have htk := Lib.hid (taken_one l c.name l[j].par c.id)
    go_upto_region 4 with (fail)
    go_cut [16] (fun p wc => p = .bool (takenR l c.name l[j].par c.id c.id) ∧ Below wq.heap.size wq wc)
    case first =>
      refine region_ord (fun w' => Below wq.heap.size wq w') [16] (.q 0 (.q 1 (.q 2 (.q 3 (.q 4 (.q 5 (.q 6 (.q 7 (.q 8 (.q 9 (.q 10 (.q 11 (.q 12 (.q 13 (.g 14 (.g 15 (.g 16 .e))))))))))))))))) (by kernel_rfl) (by kernel_rfl) (fun _ _ d _ _ h => by cases d <;> exact h) (by repeat (first | exact below_refl _ | apply below_alloc | apply below_drew | apply below_drewN)) ?_
      repeat (refine ord_q (v := ?_) rfl (by rfl) ?_ ?_; rotate_left; (focus (intro w' hS; have s0 := cell_keep hS qbc0; have s1 := cell_keep hS qbc1; have s2 := cell_keep hS q3c1; have s3 := cell_keep hS q3c3; have s4 := cell_keep hS f3; go_simp; exact rfl)); simp only [Act.put, List.setIfInBounds_toArray, List.set_cons_zero, List.set_cons_succ])
      refine ord_g (by rfl) (by rfl) ?_; intro K hK; go_simp; refine hK.out _ _ (by repeat (first | exact below_refl _ | apply below_alloc | apply below_drew | apply below_drewN)) ?_
      refine ord_g (by rfl) (by rfl) ?_; intro K hK
      go_simp
      refine (sTaken b (some ⟨g, 0, none⟩) cv l nx l[j].par c.name _ _ [c.id] _ (qb.keep (by repeat (first | exact below_refl _ | apply below_alloc | apply below_drew | apply below_drewN))) (hrq.keep (by repeat (first | exact below_refl _ | apply below_alloc | apply below_drew | apply below_drewN))) (rdI_box (xs := [c.id]) ((box_new wq [.int .i64 c.id] _ rfl).keep (by repeat (first | exact below_refl _ | apply below_alloc | apply below_drew | apply below_drewN))) (by simp)) hs).mono ?_
      rintro e wa ⟨rfl, hba⟩
      rw [htk.out]
      have hba := below_of (by exact (by repeat (first | exact below_refl _ | apply below_alloc | apply below_drew | apply below_drewN)) : Below wq.heap.size wq _) hba
      refine hK.out _ _ hba ?_
      refine ord_l (by rfl) rfl (by rfl) ?_; intro K hK; go_simp; refine hK.out _ _ ?_
      refine ord_e ?_
      go_wp2
      go_meet
      case rel => exact ⟨rfl, hba⟩
    case rest =>
      obtain ⟨rfl, HBc⟩ := hcut
      have m3 := q3.keep HBc
      have mb := qb.keep HBc
      have mx := hbx.keep HBc
      have hBc := below_of hBq HBc
      obtain ⟨e0, e1, e2, e3⟩ := mx.fld hj
      have z1 := mx.frozen (j * 4 + 1)
      have hgc := mx.lt
      have m3z := m3.lt; have m3c0 := m3.cell 0 _ rfl; have m3c1 := m3.cell 1 _ rfl; have m3c2 := m3.cell 2 _ rfl; have m3c3 := m3.cell 3 _ rfl; have m3c4 := m3.cell 4 _ rfl; have m3c5 := m3.cell 5 _ rfl; have m3c6 := m3.cell 6 _ rfl; have m3c7 := m3.cell 7 _ rfl; have mbz := mb.lt; have mbc0 := mb.cell 0 _ rfl; have mbc1 := mb.cell 1 _ rfl
      cases ht : takenR l c.name l[j].par c.id c.id
      rotate_left
      · go_wp2
        exact end_tmp rfl rfl rfl (retX_bad (by have hk := hk2.out; unfold oneR; rw [hh, hg, hid]; (repeat (first | (refine (if_pos ?_).trans ?_; (focus (first | assumption | omega | (simp [*]; done)))) | (refine (if_neg ?_).trans ?_; (focus (first | assumption | omega | (simp [*]; done)))))); try (first | rfl | (simp [*]; done))) (by decide) (hBc.mono hbw2))
      · have hv : oneR l nx c = (0, withR l ⟨l[j].id, c.name, l[j].ty, l[j].par⟩, nx) := by have hk := hk2.out; unfold oneR; rw [hh, hg, hid]; (repeat (first | (refine (if_pos ?_).trans ?_; (focus (first | assumption | omega | (simp [*]; done)))) | (refine (if_neg ?_).trans ?_; (focus (first | assumption | omega | (simp [*]; done)))))); try (first | rfl | (simp [*]; done))
        have hx := fun w' (hB' : Below wc.heap.size wc w') => (mx.keep hB').set (j * 4 + 1) (.string c.name)
        go_upto_region 6 with (fail)
        refine region_ord (fun w' => Below wc.heap.size wc w') [10] (.q 0 (.q 1 (.q 2 (.q 3 (.q 4 (.q 5 (.q 6 (.q 7 (.q 8 (.q 9 (.g 10 .e))))))))))) (by kernel_rfl) (by kernel_rfl) (fun _ _ d _ _ h => by cases d <;> exact h) (by repeat (first | exact below_refl _ | apply below_alloc | apply below_drew | apply below_drewN)) ?_
        repeat (refine ord_q (v := ?_) rfl (by rfl) ?_ ?_; rotate_left; (focus (intro w' hS; have s0 := cell_keep hS mbc0; have s1 := cell_keep hS mbc1; have s2 := cell_keep hS m3c3; go_simp; exact rfl)); simp only [Act.put, List.setIfInBounds_toArray, List.set_cons_zero, List.set_cons_succ])
        refine ord_l (by rfl) rfl (by rfl) ?_; intro K hK; go_simp; refine hK.out _ _ ?_
        refine ord_e ?_
        go_wp2
        have hbx2 := (mx.keep (below_drew (below_refl wc))).set (j * 4 + 1) (.string c.name)
        rw [flat_one (x := ⟨l[j].id, c.name, l[j].ty, l[j].par⟩) (by omega) l j hj rfl tail] at hbx2
        have HO2 := hre _ (l.set j ⟨l[j].id, c.name, l[j].ty, l[j].par⟩) (by simp) hbx2
        exact end_tmp rfl rfl rfl (by rw [hv, ← set_with hN hj ⟨l[j].id, c.name, l[j].ty, l[j].par⟩ rfl]; exact ⟨rfl, fun _ => ⟨_, (mb.keep (below_drew (below_refl wc))).far hne _, HO2⟩, ((below_of hBc (below_drew (below_refl wc))).mono hbw2).setCell hgb _⟩)
end Go.Proofs.Ythcphdgfdkgimaa
