/- Package schema, part S: move. -/
import Derived.Test.YthcphdgfdkgimaaSchR
set_option linter.unusedSimpArgs false
set_option linter.unusedVariables false
namespace Go.Proofs.Ythcphdgfdkgimaa
open Go.RowKit
theorem anc_len (l : List Fld) : ∀ (k : Nat) (id : Int), (ancGo l k id).1.length ≤ k
  | 0, id => by simp [ancGo]
  | k + 1, id => by
    have ih := anc_len l k (getF l id).par
    unfold ancGo
    repeat' split
    all_goals (simp; try omega)
theorem anc_len2 (l : List Fld) : ∀ (k : Nat) (id : Int), 0 < k → (ancGo l k id).2 = 0 → (ancGo l k id).1.length < k
  | 0, id, h, _ => by omega
  | k + 1, id, _, h0 => by
    have ih := anc_len2 l k (getF l id).par
    unfold ancGo at h0 ⊢
    by_cases h1 : id = 0
    · simp [h1]
    · rw [if_neg h1] at h0 ⊢
      by_cases h2 : hasF l id = false
      · rw [if_pos h2] at h0; exact absurd h0 h1
      · rw [if_neg h2] at h0 ⊢
        by_cases h3 : k = 0
        · rw [if_pos h3] at h0; exact absurd h0 h1
        · rw [if_neg h3] at h0 ⊢
          have := ih (by omega) h0
          simp; omega
theorem anc_too (l : List Fld) (id : Int) : (!((ancR l id).2 == 0)) = decide (8 < depthR l 9 id) := by
  rcases anc_depth l 9 id (by omega) with ⟨h1, h2⟩ | ⟨h1, h2⟩
  · have h3 := anc_len2 l 9 id (by omega) h1
    unfold ancR; rw [h1, h2, Bool.eq_iff_iff]; simp; omega
  · have h3 : ((ancR l id).2 == 0) = false := by simpa [ancR] using h1
    rw [h3, h2]; simp
theorem inside_anc (l : List Fld) (g : Int) : ∀ (k : Nat) (id : Int), insideR l g k id = (ancGo l k id).1.any (fun y => g == y)
  | 0, id => by simp [insideR, ancGo]
  | k + 1, id => by
    have ih := inside_anc l g k (getF l id).par
    unfold insideR ancGo
    by_cases h1 : id = 0
    · simp [h1]
    · rw [if_neg h1, if_neg h1]
      by_cases hg : id = g
      · rw [if_pos hg]; subst hg
        repeat' split
        all_goals simp
      · rw [if_neg hg]
        have hg' : (g == id) = false := by simpa using fun h => hg h.symm
        by_cases h2 : hasF l id = false
        · have h4 : getF l id = Fld.z := by unfold getF; unfold hasF at h2; rw [Option.isSome_eq_false_iff, Option.isNone_iff_eq_none] at h2; rw [h2]; rfl
          rw [if_pos h2, h4, show Fld.z.par = 0 from rfl, insideR_zero]; simp [hg']
        · rw [if_neg h2]
          by_cases h3 : k = 0
          · subst h3; simp [insideR, hg']
          · rw [if_neg h3, ih]; simp [hg']
theorem taken_with (l : List Fld) (f : Fld) (nm : ByteArray) (par : Int) : takenR (withR l f) nm par f.id f.id = takenR l nm par f.id f.id := by
  unfold takenR; congr 1
  unfold withR
  rw [List.any_map]
  congr 1
  funext g
  simp only [Function.comp_apply]
  by_cases h : (g.id == f.id) = true
  · rw [if_pos h]; have h' : g.id = f.id := by simpa using h
    simp [takenP, h']
  · rw [if_neg h]
theorem deep_at {l : List Fld} (h : ∀ j (h : j < l.length), (ancR l l[j].id).2 = 0) : deepAny l = false := by
  unfold deepAny
  refine any_not fun j hj => ?_
  rw [← anc_too, h j hj]; rfl
theorem deep_not {l : List Fld} {k : Nat} (hk : k < l.length) (h : ((ancR l l[k].id).2 == 0) = false) : deepAny l = true := by
  unfold deepAny
  exact any_yes hk (by rw [← anc_too, h]; rfl)
set_option maxRecDepth 100000 in
set_option maxHeartbeats 3200000 in
theorem sMove (b base : Nat) (l : List Fld) (nx : Int) (c : Chg) (w : World) (hst : St w b base l nx) (hbb : base ≤ b) (hl : l.length ≤ 900) (hN : Nums l nx) (hfs : fsok l) (hk : c.kind = 5) :
    Calls Try.prog 39 #[.pointer (some ⟨b, 0, none⟩), chgV c] w (RetX w b base (oneR l nx c)) := by
  obtain ⟨v, hb0, HO⟩ := hst
  obtain ⟨Av, cv, rfl, hcv, hr, hfv⟩ := HO.rd Fld.len (by omega)
  have hbw := hb0.lt
  have hbw2 : base ≤ w.heap.size := by omega
  have hk2 := Lib.hid hk
  clear hk
  have hin := Lib.hid (inside_anc l c.id 9 c.par)
  have hgrp := Lib.hid (rfl : grp l c.par = grp l c.par)
  go_enter Try.func39, Try.ntmps39
  go_upto_region 1 with (fail)
  refine wp_letter ?_
  intro W hW
  have h3 : Box W w.heap.size c.enc 43 := by subst hW; exact box_new _ _ _ rfl
  have hB : Below w.heap.size w W := by subst hW; exact (by repeat (first | exact below_refl _ | apply below_alloc | apply below_drew | apply below_drewN))
  clear hW
  have hb1 := hb0.keep hB
  have h3z := h3.lt; have h3c0 := h3.cell 0 _ rfl; have h3c1 := h3.cell 1 _ rfl; have h3c2 := h3.cell 2 _ rfl; have h3c3 := h3.cell 3 _ rfl; have h3c4 := h3.cell 4 _ rfl; have h3c5 := h3.cell 5 _ rfl; have h3c6 := h3.cell 6 _ rfl; have h3c7 := h3.cell 7 _ rfl; have hb1z := hb1.lt; have hb1c0 := hb1.cell 0 _ rfl; have hb1c1 := hb1.cell 1 _ rfl
  refine region_below (by kernel_rfl) (by kernel_rfl) ?_; (repeat (first | (refine quiet_on (v := ?_) (by rfl) ?_ ?_; rotate_left; (focus (intro w' hS; have s0 := cell_keep hS hb1c0; have s1 := cell_keep hS hb1c1; have s2 := cell_keep hS h3c1; go_simp; first | exact rfl | (refine (sIndex _ _ _ _ _ _ ((hr.keep hB).keep hS)).mono ?_; rintro e w1 ⟨rfl, hb⟩; refine ⟨?_, below_of hS hb⟩; exact rfl))); simp only [Act.put, List.setIfInBounds_toArray, List.set_cons_zero, List.set_cons_succ]) | (refine quiet_off (by rfl) ?_; simp only [Act.put, List.setIfInBounds_toArray, List.set_cons_zero, List.set_cons_succ]))); refine wpQuiet_nil ?_; intro wq hq; try dsimp only
  have hBq := below_of hB hq
  have q3 := h3.keep hq
  have qb := hb1.keep hq
  have HOq := HO.kept hBq
  have hrq := hr.keep hBq
  clear h3c0 h3c1 h3c2 h3c3 h3c4 h3c5 h3c6 h3c7 hb1c0 hb1c1
  have q3z := q3.lt; have q3c0 := q3.cell 0 _ rfl; have q3c1 := q3.cell 1 _ rfl; have q3c2 := q3.cell 2 _ rfl; have q3c3 := q3.cell 3 _ rfl; have q3c4 := q3.cell 4 _ rfl; have q3c5 := q3.cell 5 _ rfl; have q3c6 := q3.cell 6 _ rfl; have q3c7 := q3.cell 7 _ rfl; have qbz := qb.lt; have qbc0 := qb.cell 0 _ rfl; have qbc1 := qb.cell 1 _ rfl
  rcases first_has l c.id with ⟨hf, hh⟩ | ⟨j, hf, hj, hh, hg, hid⟩
  · go_wp2
    all_goals first
      | exact end_tmp rfl rfl rfl (retX_bad (by unfold oneR; rw [hh]; (repeat (first | (refine (if_pos ?_).trans ?_; (focus (first | assumption | omega | (simp [*]; done)))) | (refine (if_neg ?_).trans ?_; (focus (first | assumption | omega | (simp [*]; done)))))); try (first | rfl | (simp [*]; done))) (by decide) (hBq.mono hbw2))
      | (exfalso; omega)
  · rw [hf]
    have hj0 : (0 : Int) ≤ (j : Int) := by omega
    have hj1 : (j : Int) < (l.length : Int) := by omega
    have hone : Hid (oneR l nx c = moveR l nx l[j] c.par) := Lib.hid (by have hk := hk2.out; unfold oneR; rw [hh, hg, hk]; (repeat (first | (refine (if_pos ?_).trans ?_; (focus (first | assumption | omega | (simp [*]; done)))) | (refine (if_neg ?_).trans ?_; (focus (first | assumption | omega | (simp [*]; done)))))); try (first | rfl | (simp [*]; done)))
    go_upto_region 4 with (fail)
    go_cut [6] (fun p wc => ∃ (A1 : Option Addr) (c1 : Nat), p = .slice A1 (ancR l c.par).1.length c1 ∧ RdI wc A1 (ancR l c.par).1 ∧ Below wq.heap.size wq wc)
    case first =>
      refine region_ord (fun w' => Below wq.heap.size wq w') [11] (.q 0 (.q 1 (.q 2 (.q 3 (.q 4 (.q 5 (.g 6 (.q 7 (.q 8 (.q 9 (.g 10 (.g 11 .e)))))))))))) (by kernel_rfl) (by kernel_rfl) (fun _ _ d _ _ h => by cases d <;> exact h) (by repeat (first | exact below_refl _ | apply below_alloc | apply below_drew | apply below_drewN)) ?_
      repeat (refine ord_q (v := ?_) rfl (by rfl) ?_ ?_; rotate_left; (focus (intro w' hS; have s0 := cell_keep hS qbc0; have s1 := cell_keep hS qbc1; have s2 := cell_keep hS q3c6; go_simp; exact rfl)); simp only [Act.put, List.setIfInBounds_toArray, List.set_cons_zero, List.set_cons_succ])
      refine ord_g (by rfl) (by rfl) ?_; intro K hK
      go_simp
      refine (sAnc _ _ _ _ _ _ (hrq.keep (by repeat (first | exact below_refl _ | apply below_alloc | apply below_drew | apply below_drewN)))).mono ?_
      rintro e wa ⟨A1, c1, rfl, hc1, hr1, hf1, hba⟩
      have hba := below_of (by exact (by repeat (first | exact below_refl _ | apply below_alloc | apply below_drew | apply below_drewN)) : Below wq.heap.size wq wq.drew) hba
      refine hK.out _ _ hba ?_
      repeat (refine ord_q (v := ?_) rfl (by rfl) ?_ ?_; rotate_left; (focus (intro w' hS; go_simp; exact rfl)); simp only [Act.put, List.setIfInBounds_toArray, List.set_cons_zero, List.set_cons_succ])
      refine ord_g (by rfl) (by rfl) ?_; intro K hK; go_simp; refine hK.out _ _ hba ?_
      refine ord_l (by rfl) rfl (by rfl) ?_; intro K hK; go_simp; refine hK.out _ _ ?_
      refine ord_e ?_
      go_wp2
      go_meet
      case rel => exact ⟨_, _, rfl, hr1, hba⟩
    case rest =>
      obtain ⟨A1, c1, rfl, hr1, HBc⟩ := hcut
      have m3 := q3.keep HBc
      have mb := qb.keep HBc
      have hBc := below_of hBq HBc
      have HOc := HO.kept hBc
      have hrc := hr.keep hBc
      clear q3c0 q3c1 q3c2 q3c3 q3c4 q3c5 q3c6 q3c7 qbc0 qbc1
      have m3z := m3.lt; have m3c0 := m3.cell 0 _ rfl; have m3c1 := m3.cell 1 _ rfl; have m3c2 := m3.cell 2 _ rfl; have m3c3 := m3.cell 3 _ rfl; have m3c4 := m3.cell 4 _ rfl; have m3c5 := m3.cell 5 _ rfl; have m3c6 := m3.cell 6 _ rfl; have m3c7 := m3.cell 7 _ rfl; have mbz := mb.lt; have mbc0 := mb.cell 0 _ rfl; have mbc1 := mb.cell 1 _ rfl
      have hG : ∀ w', RdF w' Av l → Calls Try.prog 50 #[.agg #[.slice Av l.length cv, .int .i64 nx], .int .i64 c.par] w' fun e w'' => e = .returned (.bool (grp l c.par)) ∧ Below w'.heap.size w' w'' := fun w' h => sGroup _ _ _ _ _ _ h
      have hC : ∀ w', RdI w' A1 (ancR l c.par).1 → Calls Try.prog 62 #[.slice A1 (ancR l c.par).1.length c1, .int .i64 c.id] w' fun e w'' => e = .returned (.bool (insideR l c.id 9 c.par)) ∧ w'' = w' := fun w' h => by rw [hin.out]; exact sContains _ _ _ _ _ h
      generalize (ancR l c.par).1 = an at *
      generalize hgv : grp l c.par = gv at *
      generalize hiv : insideR l c.id 9 c.par = iv at *
      have hgh := Lib.hid hgv
      have hih := Lib.hid hiv
      clear hgv hiv hgrp hin
      have hbad : ∀ (e : Int) (w' : World), moveR l nx l[j] c.par = bad e → e ≠ 0 → Below base w w' → RetX w b base (oneR l nx c) (.returned (.int .i64 e)) w' := fun e w' h1 h2 h3 => retX_bad (by rw [hone.out]; exact h1) h2 h3
      go_upto_region 5 with (fail)
      cases gv
      · refine region_below (by kernel_rfl) (by kernel_rfl) ?_; (repeat (first | (refine quiet_on (v := ?_) (by rfl) ?_ ?_; rotate_left; (focus (intro w' hS; have s0 := cell_keep hS mbc0; have s1 := cell_keep hS mbc1; have s2 := cell_keep hS m3c6; go_simp; first | exact rfl | (refine (hG _ (hrc.keep hS)).mono ?_; rintro e w1 ⟨rfl, hb⟩; refine ⟨?_, below_of hS hb⟩; exact rfl))); simp only [Act.put, List.setIfInBounds_toArray, List.set_cons_zero, List.set_cons_succ]) | (refine quiet_off (by rfl) ?_; simp only [Act.put, List.setIfInBounds_toArray, List.set_cons_zero, List.set_cons_succ]))); refine wpQuiet_nil ?_; intro wq hq; try dsimp only
        go_wp2
        exact end_tmp rfl rfl rfl (hbad _ _ (by have h := hgh.out; unfold moveR; (repeat (first | (refine (if_pos ?_).trans ?_; (focus (first | assumption | omega | (simp [*]; done)))) | (refine (if_neg ?_).trans ?_; (focus (first | assumption | omega | (simp [*]; done)))))); try (first | rfl | (simp [*]; done))) (by decide) ((below_of hBc hq).mono hbw2))
      · cases iv
        rotate_left
        · refine region_below (by kernel_rfl) (by kernel_rfl) ?_; (repeat (first | (refine quiet_on (v := ?_) (by rfl) ?_ ?_; rotate_left; (focus (intro w' hS; have s0 := cell_keep hS mbc0; have s1 := cell_keep hS mbc1; have s2 := cell_keep hS m3c6; have s3 := cell_keep hS m3c1; go_simp; first | exact rfl | (first | (refine (hG _ (hrc.keep hS)).mono ?_; rintro e w1 ⟨rfl, hb⟩; refine ⟨?_, below_of hS hb⟩; exact rfl) | (refine (hC _ (hr1.keep hS)).mono ?_; rintro e w1 ⟨rfl, hww⟩; rw [hww]; refine ⟨?_, hS⟩; exact rfl)))); simp only [Act.put, List.setIfInBounds_toArray, List.set_cons_zero, List.set_cons_succ]) | (refine quiet_off (by rfl) ?_; simp only [Act.put, List.setIfInBounds_toArray, List.set_cons_zero, List.set_cons_succ]))); refine wpQuiet_nil ?_; intro wq hq; try dsimp only
          go_wp2
          exact end_tmp rfl rfl rfl (hbad _ _ (by have h := hgh.out; have h2 := hih.out; unfold moveR; rw [hid]; (repeat (first | (refine (if_pos ?_).trans ?_; (focus (first | assumption | omega | (simp [*]; done)))) | (refine (if_neg ?_).trans ?_; (focus (first | assumption | omega | (simp [*]; done)))))); try (first | rfl | (simp [*]; done))) (by decide) ((below_of hBc hq).mono hbw2))
        · refine region_below (by kernel_rfl) (by kernel_rfl) ?_; (repeat (first | (refine quiet_on (v := ?_) (by rfl) ?_ ?_; rotate_left; (focus (intro w' hS; have s0 := cell_keep hS mbc0; have s1 := cell_keep hS mbc1; have s2 := cell_keep hS m3c6; have s3 := cell_keep hS m3c1; go_simp; first | exact rfl | (first | (refine (hG _ (hrc.keep hS)).mono ?_; rintro e w1 ⟨rfl, hb⟩; refine ⟨?_, below_of hS hb⟩; exact rfl) | (refine (hC _ (hr1.keep hS)).mono ?_; rintro e w1 ⟨rfl, hww⟩; rw [hww]; refine ⟨?_, hS⟩; exact rfl)))); simp only [Act.put, List.setIfInBounds_toArray, List.set_cons_zero, List.set_cons_succ]) | (refine quiet_off (by rfl) ?_; simp only [Act.put, List.setIfInBounds_toArray, List.set_cons_zero, List.set_cons_succ]))); refine wpQuiet_nil ?_; intro wq hq; try dsimp only
          have hBq2 := below_of hBc hq
          have HOq2 := HOc.kept hq
          have n3 := m3.keep hq
          have nb := mb.keep hq
          clear m3c0 m3c1 m3c2 m3c3 m3c4 m3c5 m3c6 m3c7 mbc0 mbc1 hC hG hr1
          obtain ⟨g, tail, rfl, hgb, hbx, hre⟩ := own_open HOq2 (by omega)
          have hne : b ≠ g := by intro h; subst h; unfold Box at nb hbx; rw [nb] at hbx; simp at hbx
          have hx := fun w' (hB' : Below wq.heap.size wq w') => (hbx.keep hB').set (j * 4 + 3) (.int .i64 c.par)
          have hfl := Lib.hid (flat_one (x := ⟨l[j].id, l[j].name, l[j].ty, c.par⟩) (j := 3) (u := .int .i64 c.par) (by omega) l j hj rfl tail)
          have n3z := n3.lt; have n3c0 := n3.cell 0 _ rfl; have n3c1 := n3.cell 1 _ rfl; have n3c2 := n3.cell 2 _ rfl; have n3c3 := n3.cell 3 _ rfl; have n3c4 := n3.cell 4 _ rfl; have n3c5 := n3.cell 5 _ rfl; have n3c6 := n3.cell 6 _ rfl; have n3c7 := n3.cell 7 _ rfl; have nbz := nb.lt; have nbc0 := nb.cell 0 _ rfl; have nbc1 := nb.cell 1 _ rfl
          have z1 := hbx.frozen (j * 4 + 3)
          obtain ⟨e0, e1, e2, e3⟩ := hbx.fld hj
          have hgc := hbx.lt
          go_upto_region 7 with (fail)
          go_cut [] (fun wc => Box wc g ((l.set j ⟨l[j].id, l[j].name, l[j].ty, c.par⟩).flatMap Fld.enc ++ tail) 53 ∧ Box wc b [.slice (some ⟨g, 0, none⟩) l.length cv, .int .i64 nx] 75 ∧ Box wc w.heap.size c.enc 43 ∧ Below base w wc)
          case first =>
            refine region_ord (fun w' => Below wq.heap.size wq w') [10] (.q 0 (.q 1 (.q 2 (.q 3 (.q 4 (.q 5 (.q 6 (.q 7 (.q 8 (.q 9 (.g 10 .e))))))))))) (by kernel_rfl) (by kernel_rfl) (fun _ _ d _ _ h => by cases d <;> exact h) (by repeat (first | exact below_refl _ | apply below_alloc | apply below_drew | apply below_drewN)) ?_
            repeat (refine ord_q (v := ?_) rfl (by rfl) ?_ ?_; rotate_left; (focus (intro w' hS; have s0 := cell_keep hS nbc0; have s1 := cell_keep hS nbc1; have s2 := cell_keep hS n3c6; go_simp; exact rfl)); simp only [Act.put, List.setIfInBounds_toArray, List.set_cons_zero, List.set_cons_succ])
            refine ord_l (by rfl) rfl (by rfl) ?_; intro K hK; go_simp; refine hK.out _ _ ?_
            refine ord_e ?_
            go_wp2
            go_meet
            case rel => exact ⟨by rw [← hfl.out]; exact (hbx.keep (below_drew (below_refl _))).set (j * 4 + 3) _, (nb.keep (below_drew (below_refl _))).far hne _, (n3.keep (below_drew (below_refl _))).far (by have := HO.lt g (by simp [Value.ownBlock]); simp; omega) _, ((below_of hBq2 (below_drew (below_refl _))).mono hbw2).setCell hgb _⟩
          case rest =>
            obtain ⟨yx, yb, y3, hBy⟩ := hcut
            have hw2 := set_with hN hj ⟨l[j].id, l[j].name, l[j].ty, c.par⟩ rfl
            have hn2 : (l.set j ⟨l[j].id, l[j].name, l[j].ty, c.par⟩)[j]? = some ⟨l[j].id, l[j].name, l[j].ty, c.par⟩ := by simp [hj]
            have hln : l.length = (l.set j ⟨l[j].id, l[j].name, l[j].ty, c.par⟩).length := by simp
            have HO2 := hre wc _ hln.symm yx
            generalize hl2 : l.set j ⟨l[j].id, l[j].name, l[j].ty, c.par⟩ = l2 at *
            have hj2 : j < l2.length := by omega
            have hn3 : l2[j].name = l[j].name := by rw [List.getElem?_eq_getElem hj2] at hn2; injection hn2 with h; rw [h]
            rw [hln] at yb HO2
            have hr2 : RdF wc (some ⟨g, 0, none⟩) l2 := by
              obtain ⟨A2, c2, he, _, hr2, _⟩ := HO2.rd Fld.len (by omega)
              have he' : (some ⟨g, 0, none⟩ : Option Addr) = A2 := by injection he
              rw [he']; exact hr2
            have hw2h := Lib.hid hw2
            have hn3h := Lib.hid hn3
            have hl1 : l2.length ≤ 900 := by omega
            clear hw2 hn3 hl2 hn2 hln hre hfl hbx e0 e1 e2 e3 z1 nbc0 nbc1 n3c0 n3c1 n3c2 n3c3 n3c4 n3c5 n3c6 n3c7
            have y3z := y3.lt; have y3c0 := y3.cell 0 _ rfl; have y3c1 := y3.cell 1 _ rfl; have y3c2 := y3.cell 2 _ rfl; have y3c3 := y3.cell 3 _ rfl; have y3c4 := y3.cell 4 _ rfl; have y3c5 := y3.cell 5 _ rfl; have y3c6 := y3.cell 6 _ rfl; have y3c7 := y3.cell 7 _ rfl; have ybz := yb.lt; have ybc0 := yb.cell 0 _ rfl; have ybc1 := yb.cell 1 _ rfl
            go_wp2
            go_loopw [61] (fun i wr => ∃ k : Nat, i = .int .i64 k ∧ k ≤ l2.length ∧ Below wc.heap.size wc wr ∧ Hid (∀ j (h : j < l2.length), j < k → (ancR l2 l2[j].id).2 = 0)) (fun i _ => l2.length - (intOf i).toNat)
            case atStart => exact ⟨0, rfl, by omega, below_refl _, Lib.hid (fun j h hj => by omega)⟩
            case round =>
              obtain ⟨k, rfl, hk, HB, hok⟩ := hrel
              have r3 := y3.keep HB
              have rb := yb.keep HB
              have hBr := hBy.trans (HB.mono (by have := hBy.size; omega))
              have r3z := r3.lt; have r3c0 := r3.cell 0 _ rfl; have r3c1 := r3.cell 1 _ rfl; have r3c2 := r3.cell 2 _ rfl; have r3c3 := r3.cell 3 _ rfl; have r3c4 := r3.cell 4 _ rfl; have r3c5 := r3.cell 5 _ rfl; have r3c6 := r3.cell 6 _ rfl; have r3c7 := r3.cell 7 _ rfl; have rbz := rb.lt; have rbc0 := rb.cell 0 _ rfl; have rbc1 := rb.cell 1 _ rfl
              by_cases hlt : k < l2.length
              · obtain ⟨f0, f1, f2, f3⟩ := (yx.keep HB).fld hlt
                have hgr := (yx.keep HB).lt
                have hi0 : (0 : Int) ≤ (k : Int) := by omega
                have hi1 : (k : Int) < (l2.length : Int) := by omega
                go_upto_region 11 with (fail)
                refine wp_letter ?_
                intro Wr hWr
                have p9 : Box Wr wr.heap.size l2[k].enc 53 := by subst hWr; exact box_new _ _ _ rfl
                have hBw : Below wr.heap.size wr Wr := by subst hWr; exact (by repeat (first | exact below_refl _ | apply below_alloc | apply below_drew | apply below_drewN))
                clear hWr
                have pb := rb.keep hBw
                have hrw := (hr2.keep HB).keep hBw
                clear f0 f1 f2 f3 rbc0 rbc1 r3c0 r3c1 r3c2 r3c3 r3c4 r3c5 r3c6 r3c7
                have p9z := p9.lt; have p9c0 := p9.cell 0 _ rfl; have p9c1 := p9.cell 1 _ rfl; have p9c2 := p9.cell 2 _ rfl; have p9c3 := p9.cell 3 _ rfl; have pbz := pb.lt; have pbc0 := pb.cell 0 _ rfl; have pbc1 := pb.cell 1 _ rfl
                go_cut [11] (fun p wd => p = .bool ((ancR l2 l2[k].id).2 == 0) ∧ Below Wr.heap.size Wr wd)
                case first =>
                  refine region_ord (fun w' => Below Wr.heap.size Wr w') [11] (.q 0 (.q 1 (.q 2 (.q 3 (.q 4 (.q 5 (.g 6 (.q 7 (.q 8 (.q 9 (.g 10 (.g 11 .e)))))))))))) (by kernel_rfl) (by kernel_rfl) (fun _ _ d _ _ h => by cases d <;> exact h) (by repeat (first | exact below_refl _ | apply below_alloc | apply below_drew | apply below_drewN)) ?_
                  repeat (refine ord_q (v := ?_) rfl (by rfl) ?_ ?_; rotate_left; (focus (intro w' hS; have s0 := cell_keep hS pbc0; have s1 := cell_keep hS pbc1; have s2 := cell_keep hS p9c0; go_simp; exact rfl)); simp only [Act.put, List.setIfInBounds_toArray, List.set_cons_zero, List.set_cons_succ])
                  refine ord_g (by rfl) (by rfl) ?_; intro K hK
                  go_simp
                  refine (sAnc _ _ _ _ _ _ (hrw.keep (by repeat (first | exact below_refl _ | apply below_alloc | apply below_drew | apply below_drewN)))).mono ?_
                  rintro e wa ⟨A3, c3, rfl, hc3, hr3, hf3, hba⟩
                  have hba := below_of (by exact (by repeat (first | exact below_refl _ | apply below_alloc | apply below_drew | apply below_drewN)) : Below Wr.heap.size Wr Wr.drew) hba
                  refine hK.out _ _ hba ?_
                  repeat (refine ord_q (v := ?_) rfl (by rfl) ?_ ?_; rotate_left; (focus (intro w' hS; go_simp; exact rfl)); simp only [Act.put, List.setIfInBounds_toArray, List.set_cons_zero, List.set_cons_succ])
                  refine ord_g (by rfl) (by rfl) ?_; intro K hK; go_simp; refine hK.out _ _ hba ?_
                  refine ord_l (by rfl) rfl (by rfl) ?_; intro K hK; go_simp; refine hK.out _ _ ?_
                  refine ord_e ?_
                  go_wp2
                  go_meet
                  case rel => exact ⟨rfl, hba⟩
                case rest =>
                  obtain ⟨rfl, HBd⟩ := hcut
                  have hBe := below_of HB (below_of hBw HBd)
                  cases ha : ((ancR l2 l2[k].id).2 == 0)
                  · have hdp := Lib.hid (deep_not hlt ha)
                    go_wp2
                    exact end_tmp rfl rfl rfl (hbad _ _ (by have h := hgh.out; have h2 := hih.out; have h3 := hdp.out; rw [hw2h.out] at h3; unfold moveR; rw [hid]; rw [hid] at h3; (repeat (first | (refine (if_pos ?_).trans ?_; (focus (first | assumption | omega | (simp [*]; done)))) | (refine (if_neg ?_).trans ?_; (focus (first | assumption | omega | (simp [*]; done)))))); try (first | rfl | (simp [*]; done))) (by decide) (hBy.trans (hBe.mono (by have := hBy.size; omega))))
                  · have hok' := Lib.hid (upto_step (P := fun j h => (ancR l2 l2[j].id).2 = 0) hok.out (fun _ => by simpa using ha))
                    go_wp2
                    go_roundw
                    case rel => exact ⟨k + 1, by go_num, by omega, hBe, hok'⟩
                    case measure => simp [intOf]; omega
              · have hdeep := Lib.hid (deep_at (fun j h => hok.out j h (by omega)))
                go_upto_region 15 with (fail)

                obtain ⟨f0, f1, f2, f3⟩ := (yx.keep HB).fld hj2
                have hgr := (yx.keep HB).lt
                have hi1 : (j : Int) < (l2.length : Int) := by omega
                have htk := Lib.hid (taken_one l2 l2[j].name c.par c.id)
                have hns : l2[j].name.size ≤ 9223372036854775807 := by rw [hn3h.out]; exact hfs _ (List.getElem_mem hj)
                have hrr := hr2.keep HB
                go_cut [93] (fun p wd => p = .bool (takenR l2 l2[j].name c.par c.id c.id) ∧ Below wr.heap.size wr wd)
                case first =>
                  refine region_ord (fun w' => Below wr.heap.size wr w') [15] (.q 0 (.q 1 (.q 2 (.q 3 (.q 4 (.q 5 (.q 6 (.q 7 (.q 8 (.q 9 (.q 10 (.q 11 (.q 12 (.q 13 (.g 14 (.g 15 .e)))))))))))))))) (by kernel_rfl) (by kernel_rfl) (fun _ _ d _ _ h => by cases d <;> exact h) (by repeat (first | exact below_refl _ | apply below_alloc | apply below_drew | apply below_drewN)) ?_
                  repeat (refine ord_q (v := ?_) rfl (by rfl) ?_ ?_; rotate_left; (focus (intro w' hS; have s0 := cell_keep hS rbc0; have s1 := cell_keep hS rbc1; have s2 := cell_keep hS r3c1; have s3 := cell_keep hS r3c6; have s4 := cell_keep hS f1; go_simp; exact rfl)); simp only [Act.put, List.setIfInBounds_toArray, List.set_cons_zero, List.set_cons_succ])
                  refine ord_g (by rfl) (by rfl) ?_; intro K hK; go_simp; refine hK.out _ _ (by repeat (first | exact below_refl _ | apply below_alloc | apply below_drew | apply below_drewN)) ?_
                  refine ord_l (by rfl) rfl (by rfl) ?_; intro K hK; go_simp
                  refine (sTaken b (some ⟨g, 0, none⟩) cv l2 nx c.par l2[j].name _ _ [c.id] _ (rb.keep (by repeat (first | exact below_refl _ | apply below_alloc | apply below_drew | apply below_drewN))) (hrr.keep (by repeat (first | exact below_refl _ | apply below_alloc | apply below_drew | apply below_drewN))) (rdI_box (xs := [c.id]) ((box_new wr [.int .i64 c.id] _ rfl).keep (by repeat (first | exact below_refl _ | apply below_alloc | apply below_drew | apply below_drewN))) (by simp)) hns).mono ?_
                  rintro e wa ⟨rfl, hba⟩
                  rw [htk.out]
                  have hba := below_of (by exact (by repeat (first | exact below_refl _ | apply below_alloc | apply below_drew | apply below_drewN)) : Below wr.heap.size wr _) hba
                  refine hK.out _ _ ?_
                  refine ord_e ?_
                  go_wp2
                  go_meet
                  case rel => exact ⟨rfl, hba⟩
                case rest =>
                  obtain ⟨rfl, HBd⟩ := hcut
                  have htw : takenR l2 l2[j].name c.par c.id c.id = takenR l l[j].name c.par l[j].id l[j].id := by rw [hn3h.out, hw2h.out, ← hid]; exact taken_with l ⟨l[j].id, l[j].name, l[j].ty, c.par⟩ l[j].name c.par
                  rw [htw]
                  have hBe := hBr.trans (HBd.mono (by have := hBr.size; omega))
                  have sb := rb.keep HBd
                  have HO3 := (HO2.kept HB).kept HBd
                  have hmv : Hid (moveR l nx l[j] c.par = if takenR l l[j].name c.par l[j].id l[j].id = true then bad 60 else (0, l2, nx)) := by
                    have h := hgh.out; have h2 := hih.out; have h3 := hdeep.out; rw [hw2h.out] at h3 ⊢
                    refine Lib.hid ?_
                    unfold moveR; rw [hid]; rw [hid] at h3; (repeat (first | (refine (if_pos ?_).trans ?_; (focus (first | assumption | omega | (simp [*]; done)))) | (refine (if_neg ?_).trans ?_; (focus (first | assumption | omega | (simp [*]; done)))))); try (first | rfl | (simp [*]; done))
                  clear htw htk hdeep
                  cases ht : takenR l l[j].name c.par l[j].id l[j].id
                  · have hv : Hid (oneR l nx c = (0, l2, nx)) := Lib.hid (by rw [hone.out, hmv.out, ht]; rfl)
                    go_wp2
                    exact end_tmp rfl rfl rfl (by rw [hv.out]; exact ⟨rfl, fun _ => ⟨_, sb, HO3⟩, hBe⟩)
                  · go_wp2
                    exact end_tmp rfl rfl rfl (hbad _ _ (by rw [hmv.out, ht]; rfl) (by decide) hBe)
end Go.Proofs.Ythcphdgfdkgimaa
