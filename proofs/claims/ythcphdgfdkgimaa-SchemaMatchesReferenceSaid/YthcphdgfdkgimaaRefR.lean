/- The references of fenlandref06: Row. -/
import Derived.Test.YthcphdgfdkgimaaRefQ
set_option linter.unusedSimpArgs false
set_option linter.unusedVariables false
namespace Go.Proofs.Ythcphdgfdkgimaa
open Go.RowKit
theorem infoC : (Try.prog.info? 27).map (fun i => (i.zero, i.size, i.bytes)) = some (some (.agg #[.int .i64 0, .bool false, .int .i64 0, .string ⟨#[]⟩]), 4, 40) := by kernel_rfl
theorem RdV.atk {w wr : World} {A : Option Addr} {l : List Val} (h : RdV w A l) (HB : Below w.heap.size w wr) (k : Nat) (hk : k < l.length) : ∃ b o, A = some ⟨b, o, none⟩ ∧ b < w.heap.size ∧ b < wr.heap.size ∧ wr.cell? ⟨b, o + k * 3, none⟩ = some (.bool l[k].nul) ∧ wr.cell? ⟨b, o + k * 3 + 1, none⟩ = some (.int .i64 l[k].n) ∧ wr.cell? ⟨b, o + k * 3 + 2, none⟩ = some (.string l[k].s) := by
  rcases h.2 with rfl | ⟨b, o, rfl, hc⟩
  · simp at hk
  · have e := getElem_of_getD hk
    have q := fun i u hi => cell_keep HB (hc k _ i u e hi)
    have c0 := hc k _ 0 _ e rfl
    exact ⟨b, o, rfl, cell_lt c0, Nat.lt_of_lt_of_le (cell_lt c0) HB.size, q 0 _ rfl, q 1 _ rfl, q 2 _ rfl⟩
def cellR (p : Fld × Val) : Option Cel := if (p.1.ty == 6) = true then none else if p.2.nul = true then none else if (vmadeR p.2 p.1.ty).nul = true then none else some ⟨p.1.id, vmadeR p.2 p.1.ty⟩
def rowR (l : List Fld) (raw : List Val) : List Cel := (l.zip raw).filterMap cellR
def RetC (w0 : World) (l : List Cel) (e : Ending) (w' : World) : Prop := ∃ A c, e = .returned (.agg #[.slice A l.length c]) ∧ l.length ≤ c ∧ RdC w' A l ∧ Frm w0.heap.size A ∧ Below w0.heap.size w0 w'
theorem fmap_take_succ {α β : Type} (f : α → Option β) {l : List α} {k : Nat} (h : k < l.length) : (l.take (k + 1)).filterMap f = (l.take k).filterMap f ++ (match f l[k] with | some y => [y] | none => []) := by
  rw [List.take_succ_eq_append_getElem h, List.filterMap_append]; cases hp : f l[k] <;> simp [hp]
theorem vmadeR_size {v : Val} {t : Int} (h : v.s.size ≤ 9223372036854775807) : (vmadeR v t).s.size ≤ 9223372036854775807 := by
  unfold vmadeR fitR; repeat' split
  all_goals first | exact Nat.zero_le _ | exact h | (simp; omega)
set_option maxRecDepth 100000 in
set_option maxHeartbeats 1600000 in
theorem rRow (A : Option Addr) (cp : Nat) (l : List Fld) (nx : Int) (Ar : Option Addr) (cr : Nat) (raw : List Val) (w : World) (hr : RdF w A l) (hv : RdV w Ar raw) (hl : l.length ≤ 900) (hs : ∀ v ∈ raw, v.s.size ≤ 9223372036854775807) :
    Calls Try.prog 9 #[.agg #[.slice A l.length cp, .int .i64 nx], .slice Ar raw.length cr] w (RetC w (rowR l raw)) := by
  have hl2 := hr.1
  have hv2 := hv.1
  go_enter Try.func9, Try.ntmps9
  go_wp2
  go_loopw [6] (fun i wr => ∃ (k : Nat) (v : Value), i = .int .i64 k ∧ k ≤ (l.zip raw).length ∧ Below w.heap.size w wr ∧ Box wr w.heap.size [.slice A l.length cp, .int .i64 nx] 31 ∧ Box wr (w.heap.size + 1) [.slice none 0 0] 38 ∧ Box wr (w.heap.size + 1 + 1) [v] 38 ∧ Own Cel.enc 4 wr (w.heap.size + 1 + 1 + 1) 27 v (((l.zip raw).take k).filterMap cellR)) (fun i _ => (l.zip raw).length - (intOf i).toNat)
  case atStart => exact ⟨0, _, rfl, by omega, (by repeat (first | exact below_refl _ | apply below_alloc | apply below_drew | apply below_drewN)), ((box_new _ _ _ rfl).alloc _).alloc _, (box_new _ _ _ (by simp)).alloc _, box_new _ _ _ (by simp), Own.none _ _ _ _ _⟩
  case round =>
    obtain ⟨k, v, rfl, hk, HB, k0, k1, k2, HO⟩ := hrel
    obtain ⟨Av, cv, rfl, hcv⟩ := HO.slice
    have k0z := k0.lt; have k0c0 := k0.cell 0 _ rfl; have k0c1 := k0.cell 1 _ rfl; have k1z := k1.lt; have k1c0 := k1.cell 0 _ rfl; have k1f0 := k1.frozen 0; have k2z := k2.lt; have k2c0 := k2.cell 0 _ rfl; have k2f0 := k2.frozen 0
    have hzl : (l.zip raw).length = min l.length raw.length := List.length_zip
    by_cases hlt : k < (l.zip raw).length
    · have hkl : k < l.length := by omega
      have hkr : k < raw.length := by omega
      obtain ⟨b, o, rfl, hbw, hb, f0, f1, f2, f3⟩ := RdF.atk hr HB k hkl
      obtain ⟨b', o', rfl, hbw', hb', v0, v1, v2⟩ := RdV.atk hv HB k hkr
      have hi0 : (0 : Int) ≤ (k : Int) := by omega
      have hi1 : (k : Int) < (l.length : Int) := by omega
      have hi2 : (k : Int) < (raw.length : Int) := by omega
      have hzk : (l.zip raw)[k] = (l[k], raw[k]) := List.getElem_zip
      have HW := Lib.hid (fmap_take_succ cellR hlt)
      rw [hzk] at HW
      have hlen : (((l.zip raw).take k).filterMap cellR).length ≤ k := Nat.le_trans (List.length_filterMap_le _ _) (by simp; omega)
      have hsz := hs raw[k] (List.getElem_mem hkr)
      go_upto_region 6 with (fail)
      refine wp_letter ?_
      intro W6 hW
      have hB6 : Below wr.heap.size wr W6 := by rw [hW]; exact (by repeat (first | exact below_refl _ | apply below_alloc | apply below_drew | apply below_drewN))
      have p7 : Box W6 wr.heap.size l[k].enc 53 := by rw [hW]; exact box_new _ _ _ rfl
      clear hW
      have p0 := k0.keep hB6
      have p1 := k1.keep hB6
      have p2 := k2.keep hB6
      have HO6 := HO.kept hB6
      have g0 := cell_keep hB6 v0
      have g1 := cell_keep hB6 v1
      have g2 := cell_keep hB6 v2
      have p0z := p0.lt; have p0c0 := p0.cell 0 _ rfl; have p0c1 := p0.cell 1 _ rfl; have p1z := p1.lt; have p1c0 := p1.cell 0 _ rfl; have p1f0 := p1.frozen 0; have p2z := p2.lt; have p2c0 := p2.cell 0 _ rfl; have p2f0 := p2.frozen 0; have p7z := p7.lt; have p7c0 := p7.cell 0 _ rfl; have p7c1 := p7.cell 1 _ rfl; have p7c2 := p7.cell 2 _ rfl; have p7c3 := p7.cell 3 _ rfl
      have hb6' : b' < W6.heap.size := Nat.lt_of_lt_of_le hb' hB6.size
      have hBw := below_of HB hB6
      cases ht : (l[k].ty == 6)
      rotate_left
      · have HW2 : Hid (((l.zip raw).take (k + 1)).filterMap cellR = ((l.zip raw).take k).filterMap cellR) := Lib.hid (by rw [HW.out]; simp only [cellR, ht]; simp)
        go_wp2
        go_roundw
        case rel => exact ⟨k + 1, _, by go_num, by omega, hBw, p0, p1, p2, by rw [HW2.out]; exact HO6⟩
        case measure => simp [intOf]; omega
      cases hnl : raw[k].nul
      rotate_left
      · have HW2 : Hid (((l.zip raw).take (k + 1)).filterMap cellR = ((l.zip raw).take k).filterMap cellR) := Lib.hid (by rw [HW.out]; simp only [cellR, ht, hnl]; simp)
        rw [hnl] at g0
        go_wp2
        go_roundw
        case rel => exact ⟨k + 1, _, by go_num, by omega, hBw, p0, p1, p2, by rw [HW2.out]; exact HO6⟩
        case measure => simp [intOf]; omega
      rw [hnl] at g0
      go_upto_region 7 with (fail)
      have hxs := vmadeR_size (t := l[k].ty) hsz
      have HX : Hid (vmadeR raw[k] l[k].ty = vmadeR raw[k] l[k].ty) := rfl
      go_cut [8] (fun p wc => ∃ (b : Nat), p = .pointer (some ⟨b, 0, none⟩) ∧ W6.heap.size ≤ b ∧ Below W6.heap.size W6 wc ∧ Box wc b (vmadeR raw[k] l[k].ty).enc 25)
      case first =>
        refine region_ord (fun w' => Below W6.heap.size W6 w') [8] (.q 0 (.q 1 (.q 2 (.q 3 (.q 4 (.q 5 (.two 6 7 (.g 7 (.g 8 .e)) (.g 6 (.g 8 .e))))))))) (by kernel_rfl) (by kernel_rfl) (fun _ _ d _ _ h => by cases d <;> exact h) (by repeat (first | exact below_refl _ | apply below_alloc | apply below_drew | apply below_drewN)) ?_
        repeat (refine ord_q (v := ?_) rfl (by rfl) ?_ ?_; rotate_left; (focus (intro w' hS; have s0 := cell_keep hS g0; have s1 := cell_keep hS g1; have s2 := cell_keep hS g2; have s3 := cell_keep hS p7c2; go_simp; exact rfl)); simp only [Act.put, List.setIfInBounds_toArray, List.set_cons_zero, List.set_cons_succ])
        have hvk : (valV raw[k]) = .agg #[.bool false, .int .i64 raw[k].n, .string raw[k].s] := by unfold valV; rw [hnl]
        refine ord_two rfl rfl (by rfl) (by rfl) ?_ ?_
        · intro K hK; go_simp
          rw [← hvk]
          refine (rVMade _ _ _ hsz).mono ?_
          rintro e wa ⟨rfl, hba⟩
          have hba := below_of (by exact (by repeat (first | exact below_refl _ | apply below_alloc | apply below_drew | apply below_drewN)) : Below W6.heap.size W6 W6.drew) hba
          refine hK.out _ _ hba ?_
          refine ord_g (by rfl) (by rfl) ?_; intro K hK; go_simp; refine hK.out _ _ (below_alloc hba _) ?_
          refine ord_l (by rfl) rfl (by rfl) ?_; intro K hK; go_simp; refine hK.out _ _ ?_
          refine ord_e ?_
          go_wp2
          go_meet
          case rel => exact ⟨_, rfl, hba.size, below_alloc hba _, box_new _ _ _ rfl⟩
        · intro K hK; go_simp; refine hK.out _ _ (by repeat (first | exact below_refl _ | apply below_alloc | apply below_drew | apply below_drewN)) ?_
          refine ord_g (by rfl) (by rfl) ?_; intro K hK
          go_simp
          rw [← hvk]
          refine (rVMade _ _ _ hsz).mono ?_
          rintro e wa ⟨rfl, hba⟩
          have hbx := (box_new W6 [.bool false, .int .i64 0, .string ⟨#[]⟩] 25 rfl).keep (below_of (by repeat (first | exact below_refl _ | apply below_alloc | apply below_drew | apply below_drewN)) hba)
          have hba := below_of (by exact (by repeat (first | exact below_refl _ | apply below_alloc | apply below_drew | apply below_drewN)) : Below W6.heap.size W6 (W6.alloc (.cells #[.bool false, .int .i64 0, .string ⟨#[]⟩] 25)).drew) hba
          refine hK.out _ _ hba ?_
          have hbxz := hbx.lt; have hbxc0 := hbx.cell 0 _ rfl; have hbxf0 := hbx.frozen 0; have hbxc1 := hbx.cell 1 _ rfl; have hbxf1 := hbx.frozen 1; have hbxc2 := hbx.cell 2 _ rfl; have hbxf2 := hbx.frozen 2
          refine ord_l (by rfl) rfl (by rfl) ?_; intro K hK; go_simp; refine hK.out _ _ ?_
          refine ord_e ?_
          go_wp2
          go_meet
          case rel => exact ⟨_, rfl, Nat.le_refl _, below_set (below_set (below_set hba (Nat.le_refl _) _) (Nat.le_refl _) _) (Nat.le_refl _) _, ((hbx.set 0 _).set 1 _).set 2 _⟩
      case rest =>
        obtain ⟨b8, rfl, hb8, HBc, m8⟩ := hcut
        generalize hX : vmadeR raw[k] l[k].ty = x at *
        have q0 := p0.keep HBc
        have q1 := p1.keep HBc
        have q2 := p2.keep HBc
        have q7 := p7.keep HBc
        have HO8 := HO6.kept HBc
        have hBc := below_of hBw HBc
        have q0z := q0.lt; have q0c0 := q0.cell 0 _ rfl; have q0c1 := q0.cell 1 _ rfl; have q1z := q1.lt; have q1c0 := q1.cell 0 _ rfl; have q1f0 := q1.frozen 0; have q2z := q2.lt; have q2c0 := q2.cell 0 _ rfl; have q2f0 := q2.frozen 0; have q7z := q7.lt; have q7c0 := q7.cell 0 _ rfl; have q7c1 := q7.cell 1 _ rfl; have q7c2 := q7.cell 2 _ rfl; have q7c3 := q7.cell 3 _ rfl; have m8z := m8.lt; have m8c0 := m8.cell 0 _ rfl; have m8c1 := m8.cell 1 _ rfl; have m8c2 := m8.cell 2 _ rfl
        cases hxn : x.nul
        rotate_left
        · have HW2 : Hid (((l.zip raw).take (k + 1)).filterMap cellR = ((l.zip raw).take k).filterMap cellR) := Lib.hid (by rw [HW.out]; simp only [cellR, ht, hnl, hX, hxn]; simp)
          rw [hxn] at m8c0
          go_wp2
          go_roundw
          case rel => exact ⟨k + 1, _, by go_num, by omega, hBc, q0, q1, q2, by rw [HW2.out]; exact HO8⟩
          case measure => simp [intOf]; omega
        · have HW2 : Hid (((l.zip raw).take (k + 1)).filterMap cellR = ((l.zip raw).take k).filterMap cellR ++ [⟨l[k].id, x⟩]) := Lib.hid (by rw [HW.out]; simp only [cellR, ht, hnl, hX, hxn]; simp)
          have hxe : (⟨l[k].id, x⟩ : Cel).enc = [.int .i64 l[k].id, .bool false, .int .i64 x.n, .string x.s] := by unfold Cel.enc; rw [hxn]
          rw [hxn] at m8c0
          go_wp2_with (at_builtin; refine wpl_pushb (⟨l[k].id, x⟩ : Cel) (enc := Cel.enc) (g := wc.heap.size) Cel.len rfl rfl _ _ 36 27 _ 40 rfl Try.underlying36 infoC rfl (by omega) (by omega) (by rfl) (by rfl) (by rw [hxe]; exact box_new _ _ _ rfl) (HO8.kept (below_alloc (below_refl _) _)) (below_alloc hBc _) (by first | omega | (simp; done) | (simp; omega)) (by first | omega | (simp; done) | (simp; omega)) (by first | omega | (simp; done) | (simp; omega)) ?_; intro A1 c1 w1 HO1 HB1 hg1; have m0 := (q0.alloc _).grown hg1 (HO8.ne (by omega)); have m1 := (q1.alloc _).grown hg1 (HO8.ne (by omega)); have m2 := (q2.alloc _).grown hg1 (HO8.ne (by omega)); have m0z := m0.lt; have m0c0 := m0.cell 0 _ rfl; have m0c1 := m0.cell 1 _ rfl; have m1z := m1.lt; have m1c0 := m1.cell 0 _ rfl; have m1f0 := m1.frozen 0; have m2z := m2.lt; have m2c0 := m2.cell 0 _ rfl; have m2f0 := m2.frozen 0)
          go_roundw
          case rel => exact ⟨k + 1, _, by go_num, by omega, below_set HB1 (by first | omega | (simp; done) | (simp; omega)) _, m0.far (by first | omega | (simp; done) | (simp; omega)) _, m1.far (by first | omega | (simp; done) | (simp; omega)) _, m2.set 0 _, by rw [HW2.out]; exact HO1.set (a := ⟨w.heap.size + 1 + 1, 0, none⟩) (by simp) _⟩
          case measure => simp [intOf]; omega
    · have HW : Hid (((l.zip raw).take k).filterMap cellR = rowR l raw) := by rw [List.take_of_length_le (by omega)]; exact rfl
      have hlen : (((l.zip raw).take k).filterMap cellR).length ≤ 140737488355328 := Nat.le_trans (List.length_filterMap_le _ _) (by simp; omega)
      obtain ⟨A2, c2, he, hc2, hr2, hf2⟩ := (HO.set (a := ⟨w.heap.size + 1, 0, none⟩) (by simp) (.slice Av (((l.zip raw).take k).filterMap cellR).length cv)).rd Cel.len hlen
      cases he
      rw [HW.out] at hc2 hr2 k2
      rw [HW.out] at k2c0
      have hci : (k : Int) < (l.length : Int) → ¬ (k : Int) < (raw.length : Int) := fun _ => by omega
      go_wp2
      all_goals first
        | (exfalso; omega)
        | exact end_cell (t := 38) rfl rfl (k1.set 0 _) Try.underlying38 rfl rfl rfl ⟨_, _, rfl, hc2, hr2, hf2.le (by omega), below_set HB (by first | omega | (simp; done) | (simp; omega)) _⟩
end Go.Proofs.Ythcphdgfdkgimaa
