/- The walk of SchemaMatchesReference. -/
import Derived.Test.YthcphdgfdkgimaaLawD
set_option linter.unusedSimpArgs false
set_option linter.unusedVariables false
namespace Go.Proofs.Ythcphdgfdkgimaa
open Go.RowKit
set_option maxRecDepth 100000 in
set_option maxHeartbeats 8000000 in
theorem law3_walk (A0 : Option Addr) (c0 : Nat) (l0 : List Chg) (c : Chg) (id : Int) (w : World) (hr0 : RdG w A0 l0) (ho : oks l0) (hc : c.ok) (hid : -128 ≤ id ∧ id ≤ 127) :
    Calls Try.prog 5 #[.slice A0 l0.length c0, chgV c, .int .i8 id] w fun e w' => e = .returned (.bool true) ∧ Below w.heap.size w w' := by
  have hms := made_len l0 40
  have hmo := made_oks ho 40
  have hI := aft_inv (madeR l0 40)
  obtain ⟨hid1, hid2⟩ := hid
  go_enter Try.func5, Try.ntmps5
  go_upto_region 2 with (go_at_call 6; refine (sanity_ok _).mono ?_; rintro e w1 ⟨rfl, hb1⟩)
  refine wp_letter ?_
  intro W1 hW
  have p4 : Box W1 w.heap.size c.enc 43 := by subst hW; exact (box_new _ _ _ rfl).keep hb1
  have hB1 : Below w.heap.size w W1 := by subst hW; exact below_of (by repeat (first | exact below_refl _ | apply below_alloc | apply below_drew | apply below_drewN)) hb1
  clear hW hb1
  have hr0 := hr0.keep hB1
  have KM : Calls Try.prog 8 #[.slice A0 l0.length c0, .int .i64 40] W1 (RetG W1 (madeR l0 40)) := rMade _ _ _ 40 _ hr0 (by omega) ho
  have hm4 : (madeR l0 40).length ≤ 400 := by omega
  go_upto_region 3 with (go_at_call 8; (with_reducible refine KM.mono ?_); rintro e W2 ⟨A2, c2, rfl, hc2, hr2, hf2, hB2⟩)
  clear KM hms
  generalize madeR l0 40 = made at *
  have p4 := p4.keep hB2
  have hBw := below_of hB1 hB2
  go_upto_region 4 with (go_at_call 12; (with_reducible refine (sAfter _ _ _ _ hr2 hm4 hmo).mono ?_); rintro e w3 ⟨A3, c3, rfl, hc3, hr3, hf3, hb3⟩)
  refine wp_letter ?_
  intro W3 hW
  have p9 : Box W3 w3.heap.size [.slice A3 (aftR made).length c3, .int .i64 (aftN made)] 31 := by subst hW; exact box_new _ _ _ rfl
  have hB3 : Below W2.heap.size W2 W3 := by subst hW; exact below_alloc hb3 _
  have hr3 : RdF W3 A3 (aftR made) := by subst hW; exact hr3.keep (by repeat (first | exact below_refl _ | apply below_alloc | apply below_drew | apply below_drewN))
  clear hW hb3 hf3
  have p4 := p4.keep hB3
  have hr2 := hr2.keep hB3
  have hBw := below_of hBw hB3
  go_upto_region 5 with (go_at_call 7; (with_reducible refine (rAfter _ _ _ _ hr2 hm4 hmo).mono ?_); rintro e w4 ⟨A5, c5, rfl, hc5, hr5, hf5, hb4⟩)
  refine wp_letter ?_
  intro W4 hW
  have p12 : Box W4 w4.heap.size [.slice A5 (aftR made).length c5, .int .i64 (aftN made)] 31 := by subst hW; exact box_new _ _ _ rfl
  have hB4 : Below W3.heap.size W3 W4 := by subst hW; exact below_alloc hb4 _
  have hr5 : RdF W4 A5 (aftR made) := by subst hW; exact hr5.keep (by repeat (first | exact below_refl _ | apply below_alloc | apply below_drew | apply below_drewN))
  clear hW hb4 hf5 hr2
  have p4 := p4.keep hB4
  have p9 := p9.keep hB4
  have hr3 := hr3.keep hB4
  have hBw := below_of hBw hB4
  generalize (afterR made).2.1 = nn at *
  generalize (afterR made).2.2 = er at *
  generalize aftR made = l at *
  generalize aftN made = nx at *
  have hll := hI.len
  have hl9 : l.length ≤ 900 := by omega
  have hnp := hI.pos
  have hnl := hI.le
  have hn9 : 0 ≤ nx ∧ nx ≤ 100000000000 := by omega
  have hn8 : -1000000000 ≤ nx := by omega
  have hn7 : nx ≤ 100000000000 := by omega
  have hn6 : nx ≤ 1099511627776 := by omega
  have hNn := hI.nums
  have hfs := hI.fs
  have hnm := hI.tr.names
  have hch := chain_all hI
  have hIh := Lib.hid hI
  clear hI
  have p9z := p9.lt; have p9c0 := p9.cell 0 _ rfl; have p9c1 := p9.cell 1 _ rfl; have p12z := p12.lt; have p12c0 := p12.cell 0 _ rfl; have p12c1 := p12.cell 1 _ rfl
  go_upto_region 7 with (go_at_call 15; (with_reducible refine (rSame _ _ _ _ _ _ _ hr3 hr5).mono ?_); rintro e W5 ⟨rfl, hB5⟩)
  have p4 := p4.keep hB5
  have p12 := p12.keep hB5
  have hr5 := hr5.keep hB5
  have hBw := below_of hBw hB5
  clear p9c0 p9c1 p12c0 p12c1
  have p4z := p4.lt; have p4c0 := p4.cell 0 _ rfl; have p4c1 := p4.cell 1 _ rfl; have p4c2 := p4.cell 2 _ rfl; have p4c3 := p4.cell 3 _ rfl; have p4c4 := p4.cell 4 _ rfl; have p4c5 := p4.cell 5 _ rfl; have p4c6 := p4.cell 6 _ rfl; have p4c7 := p4.cell 7 _ rfl; have p12z := p12.lt; have p12c0 := p12.cell 0 _ rfl; have p12c1 := p12.cell 1 _ rfl
  by_cases hz1 : 100 < (c.name.size : Int)
  · go_wp2
    exact end_bool rfl rfl rfl rfl ⟨rfl, hBw⟩
  by_cases hz2 : 100 < (c.other.size : Int)
  · go_wp2
    exact end_bool rfl rfl rfl rfl ⟨rfl, hBw⟩
  by_cases hz3 : 100 < (c.sep.size : Int)
  · go_wp2
    exact end_bool rfl rfl rfl rfl ⟨rfl, hBw⟩
  go_upto_region 10 with (go_at_call 14; (with_reducible refine (sApply _ _ _ _ c _ hr5 hl9 hn9 hNn hc hfs).mono ?_); rintro e w6 ⟨A6, c6, rfl, hc6, hr6, hf6, hb6⟩)
  refine wp_letter ?_
  intro W6 hW
  have p15 : Box W6 w6.heap.size [.slice A6 (applyR l nx c).2.1.length c6, .int .i64 (applyR l nx c).2.2] 31 := by subst hW; exact box_new _ _ _ rfl
  have hB6 : Below W5.heap.size W5 W6 := by subst hW; exact below_alloc hb6 _
  have hr6 : RdF W6 A6 (applyR l nx c).2.1 := by subst hW; exact hr6.keep (by repeat (first | exact below_refl _ | apply below_alloc | apply below_drew | apply below_drewN))
  clear hW hb6 hf6 p4c0 p4c1 p4c2 p4c3 p4c4 p4c5 p4c6 p4c7 p12c0 p12c1
  have p4 := p4.keep hB6
  have p12 := p12.keep hB6
  have hr5 := hr5.keep hB6
  have hBw := below_of hBw hB6
  have p4z := p4.lt; have p4c0 := p4.cell 0 _ rfl; have p4c1 := p4.cell 1 _ rfl; have p4c2 := p4.cell 2 _ rfl; have p4c3 := p4.cell 3 _ rfl; have p4c4 := p4.cell 4 _ rfl; have p4c5 := p4.cell 5 _ rfl; have p4c6 := p4.cell 6 _ rfl; have p4c7 := p4.cell 7 _ rfl; have p12z := p12.lt; have p12c0 := p12.cell 0 _ rfl; have p12c1 := p12.cell 1 _ rfl
  go_upto_region 11 with (go_at_call 16; (with_reducible refine (rApply _ _ _ _ c _ hr5 hl9 hn8 hn7 hc hfs).mono ?_); rintro e w7 ⟨A7, c7, rfl, hc7, hr7, hf7, hb7⟩)
  refine wp_letter ?_
  intro W7 hW
  have p17 : Box W7 w7.heap.size [.slice A7 (applyR l nx c).2.1.length c7, .int .i64 (applyR l nx c).2.2] 31 := by subst hW; exact box_new _ _ _ rfl
  have hB7 : Below W6.heap.size W6 W7 := by subst hW; exact below_alloc hb7 _
  have hr7 : RdF W7 A7 (applyR l nx c).2.1 := by subst hW; exact hr7.keep (by repeat (first | exact below_refl _ | apply below_alloc | apply below_drew | apply below_drewN))
  clear hW hb7 hf7 p4c0 p4c1 p4c2 p4c3 p4c4 p4c5 p4c6 p4c7 p12c0 p12c1
  have p4 := p4.keep hB7
  have p12 := p12.keep hB7
  have p15 := p15.keep hB7
  have hr5 := hr5.keep hB7
  have hr6 := hr6.keep hB7
  have hBw := below_of hBw hB7
  have p4z := p4.lt; have p4c0 := p4.cell 0 _ rfl; have p4c1 := p4.cell 1 _ rfl; have p4c2 := p4.cell 2 _ rfl; have p4c3 := p4.cell 3 _ rfl; have p4c4 := p4.cell 4 _ rfl; have p4c5 := p4.cell 5 _ rfl; have p4c6 := p4.cell 6 _ rfl; have p4c7 := p4.cell 7 _ rfl; have p12z := p12.lt; have p12c0 := p12.cell 0 _ rfl; have p12c1 := p12.cell 1 _ rfl
  generalize hap : applyR l nx c = ap at *
  clear hap
  have hcc := changeR_ok (l := l) (nx := nx) hc
  have KA : ∀ w', RdF w' A5 l → Calls Try.prog 14 #[.agg #[.slice A5 l.length c5, .int .i64 nx], chgV (changeR l nx c)] w' (RetE w' (applyR l nx (changeR l nx c))) := fun w' h => sApply _ _ _ _ _ _ h hl9 hn9 hNn hcc hfs
  have KB : ∀ w', RdF w' A5 l → Calls Try.prog 16 #[.agg #[.slice A5 l.length c5, .int .i64 nx], chgV (changeR l nx c)] w' (RetE w' (applyR l nx (changeR l nx c))) := fun w' h => rApply _ _ _ _ _ _ h hl9 hn8 hn7 hcc hfs
  generalize hap2 : applyR l nx (changeR l nx c) = ap2 at *
  clear hap2
  go_upto_region 11 with (fail)
  go_cut [19, 20] (fun p q wc => ∃ (b : Nat) (A : Option Addr) (c1 : Nat), p = .pointer (some ⟨b, 0, none⟩) ∧ q = .int .i64 ap2.1 ∧ W7.heap.size ≤ b ∧ Below W7.heap.size W7 wc ∧ Box wc b [.slice A ap2.2.1.length c1, .int .i64 ap2.2.2] 31 ∧ RdF wc A ap2.2.1)
  case first => as_aux_lemma =>
    refine region_ord (fun w' => Below W7.heap.size W7 w') [10] (.q 0 (.q 1 (.q 2 (.two 3 8 (.two 4 8 (.q 5 (.q 6 (.q 7 (.g 8 (.g 9 (.g 10 .e)))))) (.g 4 (.q 5 (.q 6 (.q 7 (.g 9 (.g 10 .e))))))) (.g 3 (.g 4 (.q 5 (.q 6 (.q 7 (.g 9 (.g 10 .e))))))))))) (by kernel_rfl) (by kernel_rfl) (fun _ _ d _ _ h => by cases d <;> exact h) (by repeat (first | exact below_refl _ | apply below_alloc | apply below_drew | apply below_drewN)) ?_
    repeat (refine ord_q (v := ?_) rfl (by rfl) ?_ ?_; rotate_left; (focus (intro w' hS; have s0 := cell_keep hS p12c0; have s1 := cell_keep hS p12c1; have s2 := cell_keep hS p4c0; have s3 := cell_keep hS p4c1; have s4 := cell_keep hS p4c2; have s5 := cell_keep hS p4c3; have s6 := cell_keep hS p4c4; have s7 := cell_keep hS p4c5; have s8 := cell_keep hS p4c6; have s9 := cell_keep hS p4c7; go_simp; exact rfl)); simp only [Act.put, List.setIfInBounds_toArray, List.set_cons_zero, List.set_cons_succ, List.getElem_toArray, List.getElem_cons_zero, List.getElem_cons_succ])
    refine ord_two rfl rfl (by rfl) (by rfl) ?_ ?_
    · intro K hK; go_simp
      refine (rChange _ _ l nx c _ (hr5.keep (by repeat (first | exact below_refl _ | apply below_alloc | apply below_drew | apply below_drewN))) hn6 hc).mono ?_
      rintro e wa ⟨rfl, hba⟩
      have hba := below_of (by exact (by repeat (first | exact below_refl _ | apply below_alloc | apply below_drew | apply below_drewN)) : Below W7.heap.size W7 W7.drew) hba
      refine hK.out _ _ hba ?_
      (try simp only [Act.put, List.setIfInBounds_toArray, List.set_cons_zero, List.set_cons_succ, List.getElem_toArray, List.getElem_cons_zero, List.getElem_cons_succ])
      refine ord_two rfl rfl (by rfl) (by rfl) ?_ ?_
      · intro K hK; go_simp; refine (KA _ (hr5.keep hba)).mono ?_; rintro e wb ⟨A8, c8, rfl, hc8, hr8, hf8, hbb⟩
        have hbb := below_of hba hbb
        refine hK.out _ _ hbb ?_
        (try simp only [Act.put, List.setIfInBounds_toArray, List.set_cons_zero, List.set_cons_succ, List.getElem_toArray, List.getElem_cons_zero, List.getElem_cons_succ])
        repeat (refine ord_q (v := ?_) rfl (by rfl) ?_ ?_; rotate_left; (focus (intro w' hS; go_simp; exact rfl)); simp only [Act.put, List.setIfInBounds_toArray, List.set_cons_zero, List.set_cons_succ, List.getElem_toArray, List.getElem_cons_zero, List.getElem_cons_succ])
        refine ord_g (by rfl) (by rfl) ?_; intro K hK; go_simp; refine hK.out _ _ (below_alloc hbb _) ?_
        (try simp only [Act.put, List.setIfInBounds_toArray, List.set_cons_zero, List.set_cons_succ, List.getElem_toArray, List.getElem_cons_zero, List.getElem_cons_succ])
        refine ord_g (by rfl) (by rfl) ?_; intro K hK; go_simp; refine hK.out _ _ (below_alloc hbb _) ?_
        (try simp only [Act.put, List.setIfInBounds_toArray, List.set_cons_zero, List.set_cons_succ, List.getElem_toArray, List.getElem_cons_zero, List.getElem_cons_succ])
        refine ord_l (by rfl) rfl (by rfl) ?_; intro K hK; go_simp; refine hK.out _ _ ?_
        refine ord_e ?_
        go_wp2
        go_meet
        case rel => exact ⟨_, _, _, rfl, rfl, hbb.size, below_alloc hbb _, box_new _ _ _ rfl, hr8.keep (by repeat (first | exact below_refl _ | apply below_alloc | apply below_drew | apply below_drewN))⟩
      · intro K hK; go_simp; refine hK.out _ _ (below_alloc hba _) ?_
        (try simp only [Act.put, List.setIfInBounds_toArray, List.set_cons_zero, List.set_cons_succ, List.getElem_toArray, List.getElem_cons_zero, List.getElem_cons_succ])
        refine ord_g (by rfl) (by rfl) ?_; intro K hK; go_simp; refine (KA _ (hr5.keep (below_alloc hba _))).mono ?_; rintro e wb ⟨A8, c8, rfl, hc8, hr8, hf8, hbb⟩
        have hbx := (box_new wa [.slice none 0 0, .int .i64 0] 31 rfl).keep hbb
        have hfz := hf8.le (b' := wa.heap.size + 1) (by simp)
        have hbb := below_of (below_alloc hba _) hbb
        refine hK.out _ _ hbb ?_
        (try simp only [Act.put, List.setIfInBounds_toArray, List.set_cons_zero, List.set_cons_succ, List.getElem_toArray, List.getElem_cons_zero, List.getElem_cons_succ])
        have hzz := hba.size
        have hbxz := hbx.lt; have hbxc0 := hbx.cell 0 _ rfl; have hbxf0 := hbx.frozen 0; have hbxc1 := hbx.cell 1 _ rfl; have hbxf1 := hbx.frozen 1
        repeat (refine ord_q (v := ?_) rfl (by rfl) ?_ ?_; rotate_left; (focus (intro w' hS; go_simp; exact rfl)); simp only [Act.put, List.setIfInBounds_toArray, List.set_cons_zero, List.set_cons_succ, List.getElem_toArray, List.getElem_cons_zero, List.getElem_cons_succ])
        refine ord_g (by rfl) (by rfl) ?_; intro K hK; go_simp; refine hK.out _ _ (below_set (below_set hbb hzz _) hzz _) ?_
        (try simp only [Act.put, List.setIfInBounds_toArray, List.set_cons_zero, List.set_cons_succ, List.getElem_toArray, List.getElem_cons_zero, List.getElem_cons_succ])
        refine ord_l (by rfl) rfl (by rfl) ?_; intro K hK; go_simp; refine hK.out _ _ ?_
        refine ord_e ?_
        go_wp2
        go_meet
        case rel => exact ⟨_, _, _, rfl, rfl, hzz, below_set (below_set hbb hzz _) hzz _, (hbx.set 0 _).set 1 _, (hr8.far hfz (by simp) _).far hfz (by simp) _⟩
    · intro K hK; go_simp; refine hK.out _ _ (by repeat (first | exact below_refl _ | apply below_alloc | apply below_drew | apply below_drewN)) ?_
      (try simp only [Act.put, List.setIfInBounds_toArray, List.set_cons_zero, List.set_cons_succ, List.getElem_toArray, List.getElem_cons_zero, List.getElem_cons_succ])
      refine ord_g (by rfl) (by rfl) ?_; intro K hK; go_simp
      refine (rChange _ _ l nx c _ (hr5.keep (by repeat (first | exact below_refl _ | apply below_alloc | apply below_drew | apply below_drewN))) hn6 hc).mono ?_
      rintro e wa ⟨rfl, hba⟩
      have hbx := (box_new W7 [.slice none 0 0, .int .i64 0] 31 rfl).keep (below_of (by repeat (first | exact below_refl _ | apply below_alloc | apply below_drew | apply below_drewN)) hba)
      have hba := below_of (by exact (by repeat (first | exact below_refl _ | apply below_alloc | apply below_drew | apply below_drewN)) : Below W7.heap.size W7 (W7.alloc (.cells #[.slice none 0 0, .int .i64 0] 31)).drew) hba
      refine hK.out _ _ hba ?_
      (try simp only [Act.put, List.setIfInBounds_toArray, List.set_cons_zero, List.set_cons_succ, List.getElem_toArray, List.getElem_cons_zero, List.getElem_cons_succ])
      refine ord_g (by rfl) (by rfl) ?_; intro K hK; go_simp; refine (KA _ (hr5.keep hba)).mono ?_; rintro e wb ⟨A8, c8, rfl, hc8, hr8, hf8, hbb⟩
      have hlt := hbx.lt
      have hfz := hf8.le (b' := W7.heap.size + 1) (by omega)
      have hbx := hbx.keep hbb
      have hbb := below_of hba hbb
      refine hK.out _ _ hbb ?_
      (try simp only [Act.put, List.setIfInBounds_toArray, List.set_cons_zero, List.set_cons_succ, List.getElem_toArray, List.getElem_cons_zero, List.getElem_cons_succ])
      have hbxz := hbx.lt; have hbxc0 := hbx.cell 0 _ rfl; have hbxf0 := hbx.frozen 0; have hbxc1 := hbx.cell 1 _ rfl; have hbxf1 := hbx.frozen 1
      repeat (refine ord_q (v := ?_) rfl (by rfl) ?_ ?_; rotate_left; (focus (intro w' hS; go_simp; exact rfl)); simp only [Act.put, List.setIfInBounds_toArray, List.set_cons_zero, List.set_cons_succ, List.getElem_toArray, List.getElem_cons_zero, List.getElem_cons_succ])
      refine ord_g (by rfl) (by rfl) ?_; intro K hK; go_simp; refine hK.out _ _ (below_set (below_set hbb (Nat.le_refl _) _) (Nat.le_refl _) _) ?_
      (try simp only [Act.put, List.setIfInBounds_toArray, List.set_cons_zero, List.set_cons_succ, List.getElem_toArray, List.getElem_cons_zero, List.getElem_cons_succ])
      refine ord_l (by rfl) rfl (by rfl) ?_; intro K hK; go_simp; refine hK.out _ _ ?_
      refine ord_e ?_
      go_wp2
      go_meet
      case rel => exact ⟨_, _, _, rfl, rfl, Nat.le_refl _, below_set (below_set hbb (Nat.le_refl _) _) (Nat.le_refl _) _, (hbx.set 0 _).set 1 _, (hr8.far hfz (by simp) _).far hfz (by simp) _⟩
  case rest => as_aux_lemma =>
    obtain ⟨b19, A8, c8, rfl, rfl, hb19, HB8, p19, hr8⟩ := hcut
    have p4 := p4.keep HB8
    have p12 := p12.keep HB8
    have p15 := p15.keep HB8
    have p17 := p17.keep HB8
    have hr5 := hr5.keep HB8
    have hr6 := hr6.keep HB8
    have hr7 := hr7.keep HB8
    have hBw := below_of hBw HB8
    clear p4c0 p4c1 p4c2 p4c3 p4c4 p4c5 p4c6 p4c7 p12c0 p12c1 KA
    have KA := KB
    clear KB
    have p4z := p4.lt; have p4c0 := p4.cell 0 _ rfl; have p4c1 := p4.cell 1 _ rfl; have p4c2 := p4.cell 2 _ rfl; have p4c3 := p4.cell 3 _ rfl; have p4c4 := p4.cell 4 _ rfl; have p4c5 := p4.cell 5 _ rfl; have p4c6 := p4.cell 6 _ rfl; have p4c7 := p4.cell 7 _ rfl; have p12z := p12.lt; have p12c0 := p12.cell 0 _ rfl; have p12c1 := p12.cell 1 _ rfl
    go_upto_region 12 with (fail)
    go_cut [21, 22] (fun p q wd => ∃ (b : Nat) (A : Option Addr) (c1 : Nat), p = .pointer (some ⟨b, 0, none⟩) ∧ q = .int .i64 ap2.1 ∧ wc.heap.size ≤ b ∧ Below wc.heap.size wc wd ∧ Box wd b [.slice A ap2.2.1.length c1, .int .i64 ap2.2.2] 31 ∧ RdF wd A ap2.2.1)
    case first => as_aux_lemma =>
      refine region_ord (fun w' => Below wc.heap.size wc w') [10] (.q 0 (.q 1 (.q 2 (.two 3 8 (.two 4 8 (.q 5 (.q 6 (.q 7 (.g 8 (.g 9 (.g 10 .e)))))) (.g 4 (.q 5 (.q 6 (.q 7 (.g 9 (.g 10 .e))))))) (.g 3 (.g 4 (.q 5 (.q 6 (.q 7 (.g 9 (.g 10 .e))))))))))) (by kernel_rfl) (by kernel_rfl) (fun _ _ d _ _ h => by cases d <;> exact h) (by repeat (first | exact below_refl _ | apply below_alloc | apply below_drew | apply below_drewN)) ?_
      repeat (refine ord_q (v := ?_) rfl (by rfl) ?_ ?_; rotate_left; (focus (intro w' hS; have s0 := cell_keep hS p12c0; have s1 := cell_keep hS p12c1; have s2 := cell_keep hS p4c0; have s3 := cell_keep hS p4c1; have s4 := cell_keep hS p4c2; have s5 := cell_keep hS p4c3; have s6 := cell_keep hS p4c4; have s7 := cell_keep hS p4c5; have s8 := cell_keep hS p4c6; have s9 := cell_keep hS p4c7; go_simp; exact rfl)); simp only [Act.put, List.setIfInBounds_toArray, List.set_cons_zero, List.set_cons_succ, List.getElem_toArray, List.getElem_cons_zero, List.getElem_cons_succ])
      refine ord_two rfl rfl (by rfl) (by rfl) ?_ ?_
      · intro K hK; go_simp
        refine (rChange _ _ l nx c _ (hr5.keep (by repeat (first | exact below_refl _ | apply below_alloc | apply below_drew | apply below_drewN))) hn6 hc).mono ?_
        rintro e wa ⟨rfl, hba⟩
        have hba := below_of (by exact (by repeat (first | exact below_refl _ | apply below_alloc | apply below_drew | apply below_drewN)) : Below wc.heap.size wc wc.drew) hba
        refine hK.out _ _ hba ?_
        (try simp only [Act.put, List.setIfInBounds_toArray, List.set_cons_zero, List.set_cons_succ, List.getElem_toArray, List.getElem_cons_zero, List.getElem_cons_succ])
        refine ord_two rfl rfl (by rfl) (by rfl) ?_ ?_
        · intro K hK; go_simp; refine (KA _ (hr5.keep hba)).mono ?_; rintro e wb ⟨A8, c8, rfl, hc8, hr8, hf8, hbb⟩
          have hbb := below_of hba hbb
          refine hK.out _ _ hbb ?_
          (try simp only [Act.put, List.setIfInBounds_toArray, List.set_cons_zero, List.set_cons_succ, List.getElem_toArray, List.getElem_cons_zero, List.getElem_cons_succ])
          repeat (refine ord_q (v := ?_) rfl (by rfl) ?_ ?_; rotate_left; (focus (intro w' hS; go_simp; exact rfl)); simp only [Act.put, List.setIfInBounds_toArray, List.set_cons_zero, List.set_cons_succ, List.getElem_toArray, List.getElem_cons_zero, List.getElem_cons_succ])
          refine ord_g (by rfl) (by rfl) ?_; intro K hK; go_simp; refine hK.out _ _ (below_alloc hbb _) ?_
          (try simp only [Act.put, List.setIfInBounds_toArray, List.set_cons_zero, List.set_cons_succ, List.getElem_toArray, List.getElem_cons_zero, List.getElem_cons_succ])
          refine ord_g (by rfl) (by rfl) ?_; intro K hK; go_simp; refine hK.out _ _ (below_alloc hbb _) ?_
          (try simp only [Act.put, List.setIfInBounds_toArray, List.set_cons_zero, List.set_cons_succ, List.getElem_toArray, List.getElem_cons_zero, List.getElem_cons_succ])
          refine ord_l (by rfl) rfl (by rfl) ?_; intro K hK; go_simp; refine hK.out _ _ ?_
          refine ord_e ?_
          go_wp2
          go_meet
          case rel => exact ⟨_, _, _, rfl, rfl, hbb.size, below_alloc hbb _, box_new _ _ _ rfl, hr8.keep (by repeat (first | exact below_refl _ | apply below_alloc | apply below_drew | apply below_drewN))⟩
        · intro K hK; go_simp; refine hK.out _ _ (below_alloc hba _) ?_
          (try simp only [Act.put, List.setIfInBounds_toArray, List.set_cons_zero, List.set_cons_succ, List.getElem_toArray, List.getElem_cons_zero, List.getElem_cons_succ])
          refine ord_g (by rfl) (by rfl) ?_; intro K hK; go_simp; refine (KA _ (hr5.keep (below_alloc hba _))).mono ?_; rintro e wb ⟨A8, c8, rfl, hc8, hr8, hf8, hbb⟩
          have hbx := (box_new wa [.slice none 0 0, .int .i64 0] 31 rfl).keep hbb
          have hfz := hf8.le (b' := wa.heap.size + 1) (by simp)
          have hbb := below_of (below_alloc hba _) hbb
          refine hK.out _ _ hbb ?_
          (try simp only [Act.put, List.setIfInBounds_toArray, List.set_cons_zero, List.set_cons_succ, List.getElem_toArray, List.getElem_cons_zero, List.getElem_cons_succ])
          have hzz := hba.size
          have hbxz := hbx.lt; have hbxc0 := hbx.cell 0 _ rfl; have hbxf0 := hbx.frozen 0; have hbxc1 := hbx.cell 1 _ rfl; have hbxf1 := hbx.frozen 1
          repeat (refine ord_q (v := ?_) rfl (by rfl) ?_ ?_; rotate_left; (focus (intro w' hS; go_simp; exact rfl)); simp only [Act.put, List.setIfInBounds_toArray, List.set_cons_zero, List.set_cons_succ, List.getElem_toArray, List.getElem_cons_zero, List.getElem_cons_succ])
          refine ord_g (by rfl) (by rfl) ?_; intro K hK; go_simp; refine hK.out _ _ (below_set (below_set hbb hzz _) hzz _) ?_
          (try simp only [Act.put, List.setIfInBounds_toArray, List.set_cons_zero, List.set_cons_succ, List.getElem_toArray, List.getElem_cons_zero, List.getElem_cons_succ])
          refine ord_l (by rfl) rfl (by rfl) ?_; intro K hK; go_simp; refine hK.out _ _ ?_
          refine ord_e ?_
          go_wp2
          go_meet
          case rel => exact ⟨_, _, _, rfl, rfl, hzz, below_set (below_set hbb hzz _) hzz _, (hbx.set 0 _).set 1 _, (hr8.far hfz (by simp) _).far hfz (by simp) _⟩
      · intro K hK; go_simp; refine hK.out _ _ (by repeat (first | exact below_refl _ | apply below_alloc | apply below_drew | apply below_drewN)) ?_
        (try simp only [Act.put, List.setIfInBounds_toArray, List.set_cons_zero, List.set_cons_succ, List.getElem_toArray, List.getElem_cons_zero, List.getElem_cons_succ])
        refine ord_g (by rfl) (by rfl) ?_; intro K hK; go_simp
        refine (rChange _ _ l nx c _ (hr5.keep (by repeat (first | exact below_refl _ | apply below_alloc | apply below_drew | apply below_drewN))) hn6 hc).mono ?_
        rintro e wa ⟨rfl, hba⟩
        have hbx := (box_new wc [.slice none 0 0, .int .i64 0] 31 rfl).keep (below_of (by repeat (first | exact below_refl _ | apply below_alloc | apply below_drew | apply below_drewN)) hba)
        have hba := below_of (by exact (by repeat (first | exact below_refl _ | apply below_alloc | apply below_drew | apply below_drewN)) : Below wc.heap.size wc (wc.alloc (.cells #[.slice none 0 0, .int .i64 0] 31)).drew) hba
        refine hK.out _ _ hba ?_
        (try simp only [Act.put, List.setIfInBounds_toArray, List.set_cons_zero, List.set_cons_succ, List.getElem_toArray, List.getElem_cons_zero, List.getElem_cons_succ])
        refine ord_g (by rfl) (by rfl) ?_; intro K hK; go_simp; refine (KA _ (hr5.keep hba)).mono ?_; rintro e wb ⟨A8, c8, rfl, hc8, hr8, hf8, hbb⟩
        have hlt := hbx.lt
        have hfz := hf8.le (b' := wc.heap.size + 1) (by omega)
        have hbx := hbx.keep hbb
        have hbb := below_of hba hbb
        refine hK.out _ _ hbb ?_
        (try simp only [Act.put, List.setIfInBounds_toArray, List.set_cons_zero, List.set_cons_succ, List.getElem_toArray, List.getElem_cons_zero, List.getElem_cons_succ])
        have hbxz := hbx.lt; have hbxc0 := hbx.cell 0 _ rfl; have hbxf0 := hbx.frozen 0; have hbxc1 := hbx.cell 1 _ rfl; have hbxf1 := hbx.frozen 1
        repeat (refine ord_q (v := ?_) rfl (by rfl) ?_ ?_; rotate_left; (focus (intro w' hS; go_simp; exact rfl)); simp only [Act.put, List.setIfInBounds_toArray, List.set_cons_zero, List.set_cons_succ, List.getElem_toArray, List.getElem_cons_zero, List.getElem_cons_succ])
        refine ord_g (by rfl) (by rfl) ?_; intro K hK; go_simp; refine hK.out _ _ (below_set (below_set hbb (Nat.le_refl _) _) (Nat.le_refl _) _) ?_
        (try simp only [Act.put, List.setIfInBounds_toArray, List.set_cons_zero, List.set_cons_succ, List.getElem_toArray, List.getElem_cons_zero, List.getElem_cons_succ])
        refine ord_l (by rfl) rfl (by rfl) ?_; intro K hK; go_simp; refine hK.out _ _ ?_
        refine ord_e ?_
        go_wp2
        go_meet
        case rel => exact ⟨_, _, _, rfl, rfl, Nat.le_refl _, below_set (below_set hbb (Nat.le_refl _) _) (Nat.le_refl _) _, (hbx.set 0 _).set 1 _, (hr8.far hfz (by simp) _).far hfz (by simp) _⟩
    case rest => as_aux_lemma =>
      obtain ⟨b21, A9, c9, rfl, rfl, hb21, HB9, p21, hr9⟩ := hcut
      have p12 := p12.keep HB9
      have p15 := p15.keep HB9
      have p17 := p17.keep HB9
      have p19 := p19.keep HB9
      have hr5 := hr5.keep HB9
      have hr6 := hr6.keep HB9
      have hr7 := hr7.keep HB9
      have hr8 := hr8.keep HB9
      have hBw := below_of hBw HB9
      clear p4c0 p4c1 p4c2 p4c3 p4c4 p4c5 p4c6 p4c7 p12c0 p12c1 KA p4
      have p12z := p12.lt; have p12c0 := p12.cell 0 _ rfl; have p12c1 := p12.cell 1 _ rfl
      have hlv := leaves_len l l.length
      rw [List.take_length] at hlv
      go_upto_region 15 with (first
        | (go_at_call 17; (with_reducible refine (sLeaves _ _ _ _ _ hr5 hl9).mono ?_); rintro e w10 ⟨A10, c10, rfl, hc10, hL1, hb10⟩; have p12' := p12.keep hb10; have hr5' := hr5.keep hb10; have p12'z := p12'.lt; have p12'c0 := p12'.cell 0 _ rfl; have p12'c1 := p12'.cell 1 _ rfl)
        | (go_at_call 18; (with_reducible refine (rLeaves _ _ _ _ _ hr5' hl9).mono ?_); rintro e w11 ⟨A11, c11, rfl, hc11, hL2, hb11⟩))
      have hL1 := hL1.keep hb11
      have hB10 := below_of hb10 hb11
      have p12 := p12.keep hB10
      have p15 := p15.keep hB10
      have p17 := p17.keep hB10
      have p19 := p19.keep hB10
      have p21 := p21.keep hB10
      have hr5 := hr5.keep hB10
      have hr6 := hr6.keep hB10
      have hr7 := hr7.keep hB10
      have hr8 := hr8.keep hB10
      have hr9 := hr9.keep hB10
      have hBw := below_of hBw hB10
      clear p12'c0 p12'c1 p12' hr5' hb10 hb11 hB10
      have p15z := p15.lt; have p15c0 := p15.cell 0 _ rfl; have p15c1 := p15.cell 1 _ rfl; have p17z := p17.lt; have p17c0 := p17.cell 0 _ rfl; have p17c1 := p17.cell 1 _ rfl
      generalize hlvs : leavesR l = lv at *
      clear hlvs
      go_upto_region 17 with (first
        | (go_at_call 15; (with_reducible refine (rSame _ _ ap.2.1 ap.2.2 _ _ _ hr6 hr7).mono ?_); rintro e w12 ⟨rfl, hb12⟩; have q19 := p19.keep hb12; have q21 := p21.keep hb12; have hr8' := hr8.keep hb12; have hr9' := hr9.keep hb12; have q19z := q19.lt; have q19c0 := q19.cell 0 _ rfl; have q19c1 := q19.cell 1 _ rfl; have q21z := q21.lt; have q21c0 := q21.cell 0 _ rfl; have q21c1 := q21.cell 1 _ rfl)
        | (go_at_call 15; (with_reducible refine (rSame _ _ ap2.2.1 ap2.2.2 _ _ _ hr8' hr9').mono ?_); rintro e w13 ⟨rfl, hb13⟩))
      have hB12 := below_of hb12 hb13
      have p12 := p12.keep hB12
      have hr5 := hr5.keep hB12
      have hL1 := hL1.keep hB12
      have hL2 := hL2.keep hB12
      have hBw := below_of hBw hB12
      clear p15 p17 p19 p21 q19 q21 hr6 hr7 hr8 hr9 hr8' hr9' p15c0 p15c1 p17c0 p17c1 q19c0 q19c1 q21c0 q21c1 hb12 hb13 hB12
      have hl1 := hL1.1
      go_wp2
      go_loopw [25] (fun i wr => ∃ k : Nat, i = .int .i64 k ∧ k ≤ lv.length ∧ Below w13.heap.size w13 wr) (fun i _ => lv.length - (intOf i).toNat)
      case atStart => exact ⟨0, rfl, by omega, below_refl _⟩
      case round => as_aux_lemma =>
      obtain ⟨k, rfl, hk, HB⟩ := hrel
      by_cases hlt : k < lv.length
      · obtain ⟨b, o, rfl, hbw, hb, f0⟩ := RdI.atk hL1 HB k hlt
        obtain ⟨b', o', rfl, hbw', hb', g0⟩ := RdI.atk hL2 HB k hlt
        have hi0 : (0 : Int) ≤ (k : Int) := by omega
        have hi1 : (k : Int) < (lv.length : Int) := by omega
        go_upto_region 20 with (fail)
        refine region_below (by kernel_rfl) (by kernel_rfl) ?_; (repeat (first | (refine quiet_on (v := ?_) (by rfl) ?_ ?_; rotate_left; (focus (intro w' hS; have s0 := cell_keep hS f0; have s1 := cell_keep hS g0; go_simp; first | exact rfl | (fail))); simp only [Act.put, List.setIfInBounds_toArray, List.set_cons_zero, List.set_cons_succ]) | (refine quiet_off (by rfl) ?_; simp only [Act.put, List.setIfInBounds_toArray, List.set_cons_zero, List.set_cons_succ]))); refine wpQuiet_nil ?_; intro wq hq; try dsimp only
        go_wp2
        go_roundw
        case rel => exact ⟨k + 1, by go_num, by omega, below_of HB hq⟩
        case measure => simp [intOf]; omega
      have p12 := p12.keep HB
      have hr5 := hr5.keep HB
      have hBw := below_of hBw HB
      have p12z := p12.lt; have p12c0 := p12.cell 0 _ rfl; have p12c1 := p12.cell 1 _ rfl
      have KP : ∀ w', RdF w' A5 l → Calls Try.prog 22 #[.agg #[.slice A5 l.length c5, .int .i64 nx], .int .i64 id] w' fun e w'' => e = .returned (.string (pathP l 8 id)) ∧ Below w'.heap.size w' w'' := fun w' h => rPath _ _ l nx hnm id w' (hch id) h
      have KQ : ∀ w', RdF w' A5 l → Calls Try.prog 24 #[.agg #[.slice A5 l.length c5, .int .i64 nx], .int .i64 id] w' fun e w'' => e = .returned (.string (pathP l 8 id)) ∧ Below w'.heap.size w' w'' := fun w' h => sPath _ _ l nx hnm 8 id w' (Nat.le_refl _) (hch id) h
      go_upto_region 23 with (go_at_call 19; refine (sField _ _ l nx id _ hr5).mono ?_; rintro e w14 ⟨rfl, hb14⟩)
      refine wp_letter ?_
      intro W14 hW
      have p26 : Box W14 w14.heap.size (getF l id).enc 53 := by subst hW; exact box_new _ _ _ rfl
      have hB14 : Below wr.heap.size wr W14 := by subst hW; exact below_alloc hb14 _
      clear hW hb14 p12c0 p12c1
      have p12 := p12.keep hB14
      have hr5 := hr5.keep hB14
      have hBw := below_of hBw hB14
      have p12z := p12.lt; have p12c0 := p12.cell 0 _ rfl; have p12c1 := p12.cell 1 _ rfl
      go_upto_region 24 with (go_at_call 20; refine (rField _ _ l nx id _ hr5).mono ?_; rintro e w15 ⟨rfl, hb15⟩)
      refine wp_letter ?_
      intro W15 hW
      have p28 : Box W15 w15.heap.size (getF l id).enc 53 := by subst hW; exact box_new _ _ _ rfl
      have hB15 : Below W14.heap.size W14 W15 := by subst hW; exact below_alloc hb15 _
      clear hW hb15 p12c0 p12c1
      have p12 := p12.keep hB15
      have p26 := p26.keep hB15
      have hr5 := hr5.keep hB15
      have hBw := below_of hBw hB15
      have p12z := p12.lt; have p12c0 := p12.cell 0 _ rfl; have p12c1 := p12.cell 1 _ rfl
      generalize getF l id = f at *
      generalize hasF l id = hf at *
      have hwr : IntKind.i64.wrap id = id := IntWalk.i64_in _ (by omega)
      go_upto_region 24 with (fail)
      go_cut [30, 31] (fun p q wc => p = .int .i64 (findR l (pathP l 8 id)).1 ∧ q = .bool (findR l (pathP l 8 id)).2 ∧ Below W15.heap.size W15 wc)
      case first => as_aux_lemma =>
        have hdr : Below W15.heap.size W15 W15.drew := below_drew (below_refl _)
        refine region_ord (fun w' => Below W15.heap.size W15 w') [10] (.q 0 (.q 1 (.q 2 (.g 3 (.g 4 (.g 5 (.q 6 (.q 7 (.q 8 (.g 9 (.g 10 .e))))))))))) (by kernel_rfl) (by kernel_rfl) (fun _ _ d _ _ h => by cases d <;> exact h) (by repeat (first | exact below_refl _ | apply below_alloc | apply below_drew | apply below_drewN)) ?_
        repeat (refine ord_q (v := ?_) rfl (by rfl) ?_ ?_; rotate_left; (focus (intro w' hS; have s0 := cell_keep hS p12c0; have s1 := cell_keep hS p12c1; go_simp; exact rfl)); simp only [Act.put, List.setIfInBounds_toArray, List.set_cons_zero, List.set_cons_succ, List.getElem_toArray, List.getElem_cons_zero, List.getElem_cons_succ])
        refine ord_g (by rfl) (by rfl) ?_; intro K hK; go_simp; refine hK.out _ _ (by repeat (first | exact below_refl _ | apply below_alloc | apply below_drew | apply below_drewN)) ?_
        (try simp only [Act.put, List.setIfInBounds_toArray, List.set_cons_zero, List.set_cons_succ, List.getElem_toArray, List.getElem_cons_zero, List.getElem_cons_succ])
        refine ord_g (by rfl) (by rfl) ?_; intro K hK; go_simp; (with_reducible refine (KP _ (hr5.keep hdr)).mono ?_); rintro e wa ⟨rfl, hba⟩
        have hba := below_of (by exact (by repeat (first | exact below_refl _ | apply below_alloc | apply below_drew | apply below_drewN)) : Below W15.heap.size W15 W15.drew) hba
        refine hK.out _ _ hba ?_
        (try simp only [Act.put, List.setIfInBounds_toArray, List.set_cons_zero, List.set_cons_succ, List.getElem_toArray, List.getElem_cons_zero, List.getElem_cons_succ])
        refine ord_g (by rfl) (by rfl) ?_; intro K hK; go_simp; (with_reducible refine (sFind _ _ l nx hnm hch (pathP l 8 id) _ (hr5.keep hba)).mono ?_); rintro e wb ⟨rfl, hbb⟩
        have hba := below_of hba hbb
        refine hK.out _ _ hba ?_
        (try simp only [Act.put, List.setIfInBounds_toArray, List.set_cons_zero, List.set_cons_succ, List.getElem_toArray, List.getElem_cons_zero, List.getElem_cons_succ])
        repeat (refine ord_q (v := ?_) rfl (by rfl) ?_ ?_; rotate_left; (focus (intro w' hS; go_simp; exact rfl)); simp only [Act.put, List.setIfInBounds_toArray, List.set_cons_zero, List.set_cons_succ, List.getElem_toArray, List.getElem_cons_zero, List.getElem_cons_succ])
        refine ord_g (by rfl) (by rfl) ?_; intro K hK; go_simp; refine hK.out _ _ hba ?_
        (try simp only [Act.put, List.setIfInBounds_toArray, List.set_cons_zero, List.set_cons_succ, List.getElem_toArray, List.getElem_cons_zero, List.getElem_cons_succ])
        refine ord_l (by rfl) rfl (by rfl) ?_; intro K hK; go_simp; refine hK.out _ _ ?_
        refine ord_e ?_
        go_wp2
        go_meet
        case rel => exact ⟨rfl, rfl, hba⟩
      case rest => as_aux_lemma =>
        obtain ⟨rfl, rfl, HB16⟩ := hcut
        have p12 := p12.keep HB16
        have p26 := p26.keep HB16
        have p28 := p28.keep HB16
        have hr5 := hr5.keep HB16
        have hBw := below_of hBw HB16
        clear p12c0 p12c1
        have p12z := p12.lt; have p12c0 := p12.cell 0 _ rfl; have p12c1 := p12.cell 1 _ rfl
        go_upto_region 25 with (fail)
        go_cut [32, 33] (fun p q wd => p = .int .i64 (findR l (pathP l 8 id)).1 ∧ q = .bool (findR l (pathP l 8 id)).2 ∧ Below wc.heap.size wc wd)
        case first => as_aux_lemma =>
          have hdr : Below wc.heap.size wc wc.drew := below_drew (below_refl _)
          refine region_ord (fun w' => Below wc.heap.size wc w') [10] (.q 0 (.q 1 (.q 2 (.g 3 (.g 4 (.g 5 (.q 6 (.q 7 (.q 8 (.g 9 (.g 10 .e))))))))))) (by kernel_rfl) (by kernel_rfl) (fun _ _ d _ _ h => by cases d <;> exact h) (by repeat (first | exact below_refl _ | apply below_alloc | apply below_drew | apply below_drewN)) ?_
          repeat (refine ord_q (v := ?_) rfl (by rfl) ?_ ?_; rotate_left; (focus (intro w' hS; have s0 := cell_keep hS p12c0; have s1 := cell_keep hS p12c1; go_simp; exact rfl)); simp only [Act.put, List.setIfInBounds_toArray, List.set_cons_zero, List.set_cons_succ, List.getElem_toArray, List.getElem_cons_zero, List.getElem_cons_succ])
          refine ord_g (by rfl) (by rfl) ?_; intro K hK; go_simp; refine hK.out _ _ (by repeat (first | exact below_refl _ | apply below_alloc | apply below_drew | apply below_drewN)) ?_
          (try simp only [Act.put, List.setIfInBounds_toArray, List.set_cons_zero, List.set_cons_succ, List.getElem_toArray, List.getElem_cons_zero, List.getElem_cons_succ])
          refine ord_g (by rfl) (by rfl) ?_; intro K hK; go_simp; (with_reducible refine (KP _ (hr5.keep hdr)).mono ?_); rintro e wa ⟨rfl, hba⟩
          have hba := below_of (by exact (by repeat (first | exact below_refl _ | apply below_alloc | apply below_drew | apply below_drewN)) : Below wc.heap.size wc wc.drew) hba
          refine hK.out _ _ hba ?_
          (try simp only [Act.put, List.setIfInBounds_toArray, List.set_cons_zero, List.set_cons_succ, List.getElem_toArray, List.getElem_cons_zero, List.getElem_cons_succ])
          refine ord_g (by rfl) (by rfl) ?_; intro K hK; go_simp; (with_reducible refine (rFind _ _ l nx hnm hch (pathP l 8 id) _ (hr5.keep hba)).mono ?_); rintro e wb ⟨rfl, hbb⟩
          have hba := below_of hba hbb
          refine hK.out _ _ hba ?_
          (try simp only [Act.put, List.setIfInBounds_toArray, List.set_cons_zero, List.set_cons_succ, List.getElem_toArray, List.getElem_cons_zero, List.getElem_cons_succ])
          repeat (refine ord_q (v := ?_) rfl (by rfl) ?_ ?_; rotate_left; (focus (intro w' hS; go_simp; exact rfl)); simp only [Act.put, List.setIfInBounds_toArray, List.set_cons_zero, List.set_cons_succ, List.getElem_toArray, List.getElem_cons_zero, List.getElem_cons_succ])
          refine ord_g (by rfl) (by rfl) ?_; intro K hK; go_simp; refine hK.out _ _ hba ?_
          (try simp only [Act.put, List.setIfInBounds_toArray, List.set_cons_zero, List.set_cons_succ, List.getElem_toArray, List.getElem_cons_zero, List.getElem_cons_succ])
          refine ord_l (by rfl) rfl (by rfl) ?_; intro K hK; go_simp; refine hK.out _ _ ?_
          refine ord_e ?_
          go_wp2
          go_meet
          case rel => exact ⟨rfl, rfl, hba⟩
        case rest => as_aux_lemma =>
          obtain ⟨rfl, rfl, HB17⟩ := hcut
          have p12 := p12.keep HB17
          have p26 := p26.keep HB17
          have p28 := p28.keep HB17
          have hr5 := hr5.keep HB17
          have hBw := below_of hBw HB17
          clear p12c0 p12c1
          have p12z := p12.lt; have p12c0 := p12.cell 0 _ rfl; have p12c1 := p12.cell 1 _ rfl; have p26z := p26.lt; have p26c0 := p26.cell 0 _ rfl; have p26c1 := p26.cell 1 _ rfl; have p26c2 := p26.cell 2 _ rfl; have p26c3 := p26.cell 3 _ rfl; have p28z := p28.lt; have p28c0 := p28.cell 0 _ rfl; have p28c1 := p28.cell 1 _ rfl; have p28c2 := p28.cell 2 _ rfl; have p28c3 := p28.cell 3 _ rfl
          generalize findR l (pathP l 8 id) = fr at *
          generalize pathP l 8 id = pth at *
          clear hIh hNn hfs hnm hch hl9 hn9 hn8 hn7 hn6 hnp hnl hll hm4 hmo ho hc hz1 hz2 hz3 hr0
          go_upto_region 26 with (fail)
          refine region_below (by kernel_rfl) (by kernel_rfl) ?_; (repeat (first | (refine quiet_on (v := ?_) (by rfl) ?_ ?_; rotate_left; (focus (intro w' hS; have s0 := cell_keep hS p12c0; have s1 := cell_keep hS p12c1; have s2 := cell_keep hS p26c0; have s3 := cell_keep hS p26c1; have s4 := cell_keep hS p26c2; have s5 := cell_keep hS p26c3; have s6 := cell_keep hS p28c0; have s7 := cell_keep hS p28c1; have s8 := cell_keep hS p28c2; have s9 := cell_keep hS p28c3; go_simp; first | exact rfl | (first | ((with_reducible refine (KQ _ (hr5.keep hS)).mono ?_); rintro e w1 ⟨rfl, hb⟩; refine ⟨?_, below_of hS hb⟩; exact rfl) | ((with_reducible refine (KP _ (hr5.keep hS)).mono ?_); rintro e w1 ⟨rfl, hb⟩; refine ⟨?_, below_of hS hb⟩; exact rfl)))); simp only [Act.put, List.setIfInBounds_toArray, List.set_cons_zero, List.set_cons_succ]) | (refine quiet_off (by rfl) ?_; simp only [Act.put, List.setIfInBounds_toArray, List.set_cons_zero, List.set_cons_succ]))); refine wpQuiet_nil ?_; intro wq hq; try dsimp only
          go_wp2
          exact end_bool rfl rfl rfl rfl ⟨rfl, below_of hBw hq⟩
end Go.Proofs.Ythcphdgfdkgimaa
