/- The walk of SchemaRowsKeepFitting. -/
import Derived.Test.YthcphdgfdkgimaaLawD
set_option linter.unusedSimpArgs false
set_option linter.unusedVariables false
namespace Go.Proofs.Ythcphdgfdkgimaa
open Go.RowKit
theorem change_kind (l : List Fld) (nx : Int) (c : Chg) : 1 ≤ (changeR l nx c).kind ∧ (changeR l nx c).kind ≤ 7 := by
  have h := modR_in (x := c.kind) (n := 7) (by omega)
  show 1 ≤ 1 + modR c.kind 7 ∧ 1 + modR c.kind 7 ≤ 7
  have := h.2.1 (by omega)
  omega
set_option maxRecDepth 100000 in
set_option maxHeartbeats 3200000 in
theorem law2_walk (A0 : Option Addr) (c0 : Nat) (l0 : List Chg) (A1 : Option Addr) (c1 : Nat) (raw : List Val) (Am : Option Addr) (cm : Nat) (more : List Chg) (w : World) (hr0 : RdG w A0 l0) (ho : oks l0) (hr1 : RdV w A1 raw) (hv : ∀ v ∈ raw, v.ok) (hrm : RdG w Am more) (hom : oks more) :
    Calls Try.prog 4 #[.slice A0 l0.length c0, .slice A1 raw.length c1, .slice Am more.length cm] w fun e w' => e = .returned (.bool true) ∧ Below w.heap.size w w' := by
  have hms := made_len l0 20
  have hmo := made_oks ho 20
  have hI := aft_inv (madeR l0 20)
  have hS := aft_srt (madeR l0 20)
  have hE := Lib.hid (after_made l0 20).1
  have hml := hrm.1
  go_enter Try.func4, Try.ntmps4
  go_upto_region 2 with (go_at_call 6; refine (sanity_ok _).mono ?_; rintro e W1 ⟨rfl, hB1⟩)
  have hr0 := hr0.keep hB1
  have hr1 := hr1.keep hB1
  have hrm1 := hrm.keep hB1
  have KM : Calls Try.prog 8 #[.slice A0 l0.length c0, .int .i64 20] W1 (RetG W1 (madeR l0 20)) := rMade _ _ _ 20 _ hr0 (by omega) ho
  have hm4 : (madeR l0 20).length ≤ 400 := by omega
  go_upto_region 3 with (first
    | (go_at_call 8; (with_reducible refine KM.mono ?_); rintro e w2 ⟨A2, c2, rfl, hc2, hr2, hf2, hb2⟩)
    | (go_at_call 12; (with_reducible refine (sAfter _ _ _ _ hr2 hm4 hmo).mono ?_); rintro e w3 ⟨A3, c3, rfl, hc3, hr3, hf3, hb3⟩; rw [hE.out]))
  refine wp_letter ?_
  intro W3 hW
  have p8 : Box W3 w3.heap.size [.slice A3 (aftR (madeR l0 20)).length c3, .int .i64 (aftN (madeR l0 20))] 31 := by subst hW; exact box_new _ _ _ rfl
  have hB3 : Below W1.heap.size W1 W3 := by subst hW; exact below_alloc (below_of hb2 hb3) _
  have hoff : Off A3 (aftR (madeR l0 20)) w3.heap.size := Off.old Fld.len (by omega) hr3 (Nat.le_refl _)
  have hr3 : RdF W3 A3 (aftR (madeR l0 20)) := by subst hW; exact hr3.keep (by repeat (first | exact below_refl _ | apply below_alloc | apply below_drew | apply below_drewN))
  have hz3 : w3.heap.size < W3.heap.size := p8.lt
  have hB1s := hB1.size
  have hb2s : W1.heap.size ≤ w3.heap.size := (below_of hb2 hb3).size
  clear hW hb3 hb2 hr2 hE KM hmo hm4 hms hf3
  have hr1 := hr1.keep hB3
  have hrm := hrm1.keep hB3
  have hBw := below_of hB1 hB3
  have hom3 : Off Am more w3.heap.size := Off.old Chg.len (by omega) hrm1 (by have := hb2s; omega)
  generalize aftR (madeR l0 20) = l at *
  generalize aftN (madeR l0 20) = nx at *
  have hll := hI.len
  have hl9 : l.length ≤ 900 := by omega
  have hvs : ∀ v ∈ raw, v.s.size ≤ 9223372036854775807 := fun v h => (hv v h).1
  have p8z := p8.lt; have p8c0 := p8.cell 0 _ rfl; have p8c1 := p8.cell 1 _ rfl
  go_upto_region 6 with (go_at_call 9; (with_reducible refine (rRow _ _ _ _ _ _ raw _ hr3 hr1 hl9 hvs).mono ?_); rintro e w4 ⟨A4, c4, rfl, hc4, hr4, hf4, hb4⟩)
  have hrow := row_len l raw
  have hrk := row_ok hv (l := l)
  have hrf := row_fits hI hS raw
  generalize rowR l raw = row at *
  refine wp_letter ?_
  intro W4 hW
  have p11 : Box W4 w4.heap.size [.slice A4 row.length c4] 38 := by subst hW; exact box_new _ _ _ rfl
  have hB4 : Below W3.heap.size W3 W4 := by subst hW; exact below_alloc hb4 _
  have hr4 : RdC W4 A4 row := by subst hW; exact hr4.keep (by repeat (first | exact below_refl _ | apply below_alloc | apply below_drew | apply below_drewN))
  have hz4 : W3.heap.size ≤ w4.heap.size := hb4.size
  have hf4 : Off A4 row w3.heap.size := Off.frm hf4 hz3
  clear hW hb4 p8c0 p8c1
  have p8 := p8.keep hB4
  have hr3 := hr3.keep hB4
  have hrm := hrm.keep hB4
  have hBw := below_of hBw hB4
  have hrfh := Lib.hid hrf
  have hIh := Lib.hid hI
  clear hrf hI hS
  go_wp2
  go_loopw [12] (fun i wr => ∃ (k : Nat) (A : Option Addr) (cp : Nat) (l : List Fld) (nx : Int), i = .int .i64 k ∧ k ≤ 8 ∧ Hid (Inv l nx) ∧ Hid (fitsR l row = true) ∧ Below w.heap.size w wr ∧ Box wr w3.heap.size [.slice A l.length cp, .int .i64 nx] 31 ∧ Box wr w4.heap.size [.slice A4 row.length c4] 38 ∧ RdF wr A l ∧ Off A l w3.heap.size ∧ RdC wr A4 row ∧ RdG wr Am more) (fun i _ => 8 - (intOf i).toNat)
  case atStart => exact ⟨0, A3, c3, l, nx, rfl, by omega, hIh, hrfh, hBw, p8, p11, hr3, hoff, hr4, hrm⟩
  case round =>
    obtain ⟨k, A, cp, l, nx, rfl, hk, hIh, hfit, HB, k8, k11, hrl, hol, hrr, hrm⟩ := hrel
    have hI := hIh.out
    have hll := hI.len
    have hnp := hI.pos
    have hnl := hI.le
    have hNn := hI.nums
    have hl9 : l.length ≤ 900 := by omega
    have hn9 : 0 ≤ nx ∧ nx ≤ 100000000000 := by omega
    have k8z := k8.lt; have k8c0 := k8.cell 0 _ rfl; have k8f0 := k8.frozen 0; have k8c1 := k8.cell 1 _ rfl; have k8f1 := k8.frozen 1; have k11z := k11.lt; have k11c0 := k11.cell 0 _ rfl
    by_cases hlt : k < more.length
    rotate_left
    · go_wp2
      exact end_bool rfl rfl rfl rfl ⟨rfl, HB⟩
    by_cases hk8 : k < 8
    rotate_left
    · have hk8' : ¬ ((k : Int) < 8) := by omega
      go_wp2
      exact end_bool rfl rfl rfl rfl ⟨rfl, HB⟩
    obtain ⟨b, o, rfl, hbw, hb, f0, f1, f2, f3, f4, f5, f6, f7⟩ := RdG.atk hrm (below_refl _) k hlt
    have hi0 : (0 : Int) ≤ (k : Int) := by omega
    have hi1 : (k : Int) < (more.length : Int) := by omega
    have hi8 : (k : Int) < 8 := by omega
    have hck := hom more[k] (List.getElem_mem hlt)
    have hkd := change_kind l nx more[k]
    have hcc := changeR_ok (l := l) (nx := nx) hck
    go_upto_region 9 with (fail)
    go_cut [13] (fun p wc => ∃ b13, p = .pointer (some ⟨b13, 0, none⟩) ∧ wr.heap.size ≤ b13 ∧ Below wr.heap.size wr wc ∧ Box wc b13 (changeR l nx more[k]).enc 43)
    case first =>
      refine region_ord (fun w' => Below wr.heap.size wr w') [7] (.q 0 (.q 1 (.q 2 (.q 3 (.q 4 (.two 5 6 (.g 6 (.g 7 .e)) (.g 5 (.g 7 .e)))))))) (by kernel_rfl) (by kernel_rfl) (fun _ _ d _ _ h => by cases d <;> exact h) (by repeat (first | exact below_refl _ | apply below_alloc | apply below_drew | apply below_drewN)) ?_
      repeat (refine ord_q (v := ?_) rfl (by rfl) ?_ ?_; rotate_left; (focus (intro w' hS; have s0 := cell_keep hS k8c0; have s1 := cell_keep hS k8c1; have s2 := cell_keep hS f0; have s3 := cell_keep hS f1; have s4 := cell_keep hS f2; have s5 := cell_keep hS f3; have s6 := cell_keep hS f4; have s7 := cell_keep hS f5; have s8 := cell_keep hS f6; have s9 := cell_keep hS f7; go_simp; exact rfl)); simp only [Act.put, List.setIfInBounds_toArray, List.set_cons_zero, List.set_cons_succ])
      refine ord_two rfl rfl (by rfl) (by rfl) ?_ ?_
      · intro K hK; go_simp
        refine (rChange _ _ l nx more[k] _ (hrl.keep (by repeat (first | exact below_refl _ | apply below_alloc | apply below_drew | apply below_drewN))) (by omega) hck).mono ?_
        rintro e wa ⟨rfl, hba⟩
        have hba := below_of (by exact (by repeat (first | exact below_refl _ | apply below_alloc | apply below_drew | apply below_drewN)) : Below wr.heap.size wr wr.drew) hba
        refine hK.out _ _ hba ?_
        (try simp only [Act.put, List.setIfInBounds_toArray, List.set_cons_zero, List.set_cons_succ, List.getElem_toArray, List.getElem_cons_zero, List.getElem_cons_succ])
        refine ord_g (by rfl) (by rfl) ?_; intro K hK; go_simp; refine hK.out _ _ (below_alloc hba _) ?_
        refine ord_l (by rfl) rfl (by rfl) ?_; intro K hK; go_simp; refine hK.out _ _ ?_
        refine ord_e ?_
        go_wp2
        go_meet
        case rel => exact ⟨_, rfl, hba.size, below_alloc hba _, box_new _ _ _ rfl⟩
      · intro K hK; go_simp; refine hK.out _ _ (by repeat (first | exact below_refl _ | apply below_alloc | apply below_drew | apply below_drewN)) ?_
        (try simp only [Act.put, List.setIfInBounds_toArray, List.set_cons_zero, List.set_cons_succ, List.getElem_toArray, List.getElem_cons_zero, List.getElem_cons_succ])
        refine ord_g (by rfl) (by rfl) ?_; intro K hK; go_simp
        refine (rChange _ _ l nx more[k] _ (hrl.keep (by repeat (first | exact below_refl _ | apply below_alloc | apply below_drew | apply below_drewN))) (by omega) hck).mono ?_
        rintro e wa ⟨rfl, hba⟩
        have hbx := (box_new wr zChg 43 rfl).keep (below_of (by repeat (first | exact below_refl _ | apply below_alloc | apply below_drew | apply below_drewN)) hba)
        have hba := below_of (by exact (by repeat (first | exact below_refl _ | apply below_alloc | apply below_drew | apply below_drewN)) : Below wr.heap.size wr (wr.alloc (.cells zChg.toArray 43)).drew) hba
        refine hK.out _ _ hba ?_
        (try simp only [Act.put, List.setIfInBounds_toArray, List.set_cons_zero, List.set_cons_succ, List.getElem_toArray, List.getElem_cons_zero, List.getElem_cons_succ])
        have hbxz := hbx.lt; have hbxc0 := hbx.cell 0 _ rfl; have hbxf0 := hbx.frozen 0; have hbxc1 := hbx.cell 1 _ rfl; have hbxf1 := hbx.frozen 1; have hbxc2 := hbx.cell 2 _ rfl; have hbxf2 := hbx.frozen 2; have hbxc3 := hbx.cell 3 _ rfl; have hbxf3 := hbx.frozen 3; have hbxc4 := hbx.cell 4 _ rfl; have hbxf4 := hbx.frozen 4; have hbxc5 := hbx.cell 5 _ rfl; have hbxf5 := hbx.frozen 5; have hbxc6 := hbx.cell 6 _ rfl; have hbxf6 := hbx.frozen 6; have hbxc7 := hbx.cell 7 _ rfl; have hbxf7 := hbx.frozen 7
        refine ord_l (by rfl) rfl (by rfl) ?_; intro K hK; go_simp; refine hK.out _ _ ?_
        refine ord_e ?_
        go_wp2
        go_meet
        case rel => exact ⟨_, rfl, Nat.le_refl _, below_set8 hba (Nat.le_refl _) _ _ _ _ _ _ _ _, hbx.set8 _ _ _ _ _ _ _ _⟩
    case rest =>
      obtain ⟨b13, rfl, hb13, HBc, m13⟩ := hcut
      have p8 := k8.keep HBc
      have p11 := k11.keep HBc
      have hrl := hrl.keep HBc
      have hrr := hrr.keep HBc
      have hrm := hrm.keep HBc
      have hBc := below_of HB HBc
      have hz8 := k8.lt
      generalize changeR l nx more[k] = c at *
      clear k8c0 k8c1 k8f0 k8f1 k11c0 f0 f1 f2 f3 f4 f5 f6 f7
      have m13z := m13.lt; have m13c0 := m13.cell 0 _ rfl; have m13c1 := m13.cell 1 _ rfl; have m13c2 := m13.cell 2 _ rfl; have m13c3 := m13.cell 3 _ rfl; have m13c4 := m13.cell 4 _ rfl; have m13c5 := m13.cell 5 _ rfl; have m13c6 := m13.cell 6 _ rfl; have m13c7 := m13.cell 7 _ rfl; have p8z := p8.lt; have p8c0 := p8.cell 0 _ rfl; have p8c1 := p8.cell 1 _ rfl; have p11z := p11.lt; have p11c0 := p11.cell 0 _ rfl
      by_cases hq2 : c.kind = 2
      · have hd : (c.kind == 2) = true := by simpa using hq2
        clear hq2
        go_wp2
        go_roundw
        case rel => exact ⟨k + 1, A, cp, l, nx, by go_num, by omega, hIh, hfit, hBc, p8, p11, hrl, hol, hrr, hrm⟩
        case measure => simp [intOf]; omega
      have hd2 : (c.kind == 2) = false := by simpa using hq2
      by_cases hq6 : c.kind = 6
      · have hd : (c.kind == 6) = true := by simpa using hq6
        clear hq6 hq2
        go_wp2
        go_roundw
        case rel => exact ⟨k + 1, A, cp, l, nx, by go_num, by omega, hIh, hfit, hBc, p8, p11, hrl, hol, hrr, hrm⟩
        case measure => simp [intOf]; omega
      have hd6 : (c.kind == 6) = false := by simpa using hq6
      by_cases hq7 : c.kind = 7
      · have hd : (c.kind == 7) = true := by simpa using hq7
        clear hq7 hq6 hq2
        go_wp2
        go_roundw
        case rel => exact ⟨k + 1, A, cp, l, nx, by go_num, by omega, hIh, hfit, hBc, p8, p11, hrl, hol, hrr, hrm⟩
        case measure => simp [intOf]; omega
      have hd7 : (c.kind == 7) = false := by simpa using hq7
      have hfs := hI.fs
      go_upto_region 12 with (go_at_call 14; (with_reducible refine (sApply _ _ _ _ c _ hrl hl9 hn9 hNn hcc hfs).mono ?_); rintro e wa ⟨A1, c1', rfl, hc1, hra, hfa, hba⟩)
      refine wp_letter ?_
      intro W6 hW
      have q14 : Box W6 wa.heap.size [.slice A1 (applyR l nx c).2.1.length c1', .int .i64 (applyR l nx c).2.2] 31 := by subst hW; exact box_new _ _ _ rfl
      have hB6 : Below wc.heap.size wc W6 := by subst hW; exact below_alloc hba _
      have hra : RdF W6 A1 (applyR l nx c).2.1 := by subst hW; exact hra.keep (by repeat (first | exact below_refl _ | apply below_alloc | apply below_drew | apply below_drewN))
      clear hW hba m13c0 m13c1 m13c2 m13c3 m13c4 m13c5 m13c6 m13c7 p8c0 p8c1 p11c0
      have q8 := p8.keep hB6
      have q11 := p11.keep hB6
      have hrl := hrl.keep hB6
      have hrr := hrr.keep hB6
      have hrm := hrm.keep hB6
      have hBe := below_of hBc hB6
      have hz9 := p8.lt
      have hoa : Off A1 (applyR l nx c).2.1 w3.heap.size := Off.frm hfa hz9
      have q14z := q14.lt; have q14c0 := q14.cell 0 _ rfl; have q14c1 := q14.cell 1 _ rfl; have q8z := q8.lt; have q8c0 := q8.cell 0 _ rfl; have q8f0 := q8.frozen 0; have q8c1 := q8.cell 1 _ rfl; have q8f1 := q8.frozen 1; have q11z := q11.lt; have q11c0 := q11.cell 0 _ rfl
      by_cases h0 : (applyR l nx c).1 = 0
      · have hI2 := inv_apply hI h0
        have hf2 := Lib.hid (fits_apply (r := row) hI h0 hq2 hq6 hq7 hfit.out)
        have h0' : ((applyR l nx c).1 == 0) = true := by simpa using h0
        clear h0 hq2 hq6 hq7
        generalize (applyR l nx c).2.1 = l2 at *
        generalize (applyR l nx c).2.2 = n2 at *
        have hids := hI2.ids
        have hI2h := Lib.hid hI2
        clear hI2 hI
        go_upto_region 14 with (fail)
        refine wp_letter ?_
        intro W7 hW
        have r8 : Box W7 w3.heap.size [.slice A1 l2.length c1', .int .i64 n2] 31 := by subst hW; exact (q8.set 0 _).set 1 _
        have hB7 : Below w.heap.size w W7 := by subst hW; exact below_set (below_set hBe (by first | omega | (simp; done) | (simp; omega)) _) (by first | omega | (simp; done) | (simp; omega)) _
        have hra : RdF W7 A1 l2 := by subst hW; exact (hra.apart hoa _).apart hoa _
        have r11 : Box W7 w4.heap.size [.slice A4 row.length c4] 38 := by subst hW; exact (q11.far (by simp; omega) _).far (by simp; omega) _
        have hrr : RdC W7 A4 row := by subst hW; exact (hrr.apart hf4 _).apart hf4 _
        have hrm : RdG W7 (some ⟨b, o, none⟩) more := by
          subst hW
          exact (hrm.apart hom3 _).apart hom3 _
        clear hW q14c0 q14c1 q8c0 q8c1 q8f0 q8f1 q11c0
        have r8z := r8.lt; have r8c0 := r8.cell 0 _ rfl; have r8c1 := r8.cell 1 _ rfl; have r11z := r11.lt; have r11c0 := r11.cell 0 _ rfl
        go_wp2_with (go_at_call 10; (with_reducible refine (sFits _ _ _ _ _ _ _ _ hra hrr hrk hids).mono ?_); rintro e w9 ⟨rfl, hb9⟩; rw [hf2.out])
        go_roundw
        case rel => exact ⟨k + 1, A1, c1', l2, n2, by go_num, by omega, hI2h, hf2, below_of hB7 hb9, r8.keep hb9, r11.keep hb9, hra.keep hb9, hoa, hrr.keep hb9, hrm.keep hb9⟩
        case measure => simp [intOf]; omega
      · have h0' : ((applyR l nx c).1 == 0) = false := by simpa using h0
        clear h0
        have hids := hI.ids
        go_wp2_with (go_at_call 10; (with_reducible refine (sFits _ _ _ _ _ _ _ _ hrl hrr hrk hids).mono ?_); rintro e w9 ⟨rfl, hb9⟩; rw [hfit.out])
        go_roundw
        case rel => exact ⟨k + 1, A, cp, l, nx, by go_num, by omega, hIh, hfit, below_of hBe hb9, q8.keep hb9, q11.keep hb9, hrl.keep hb9, hol, hrr.keep hb9, hrm.keep hb9⟩
        case measure => simp [intOf]; omega
end Go.Proofs.Ythcphdgfdkgimaa
