/- The references of fenlandref06, part L: After. -/
import Derived.Test.YthcphdgfdkgimaaRefK
set_option linter.unusedSimpArgs false
set_option linter.unusedVariables false
namespace Go.Proofs.Ythcphdgfdkgimaa
open Go.RowKit
theorem end_cell_tmp2 {P : Program} {fn : Func} {R : Ending → World → Prop} {a : Act} {w : World} {g : Nat} {vs : List Value} {t : TypeId} {p q q2 : Tmp} {ty : TypeId} {d : TypeDesc} {v v2 : Value} (hr : fn.results = #[.cell p ty, .tmp q, .tmp q2]) (hp : a.tmps.getD p undef = .pointer (some ⟨g, 0, none⟩)) (hq : a.tmps.getD q undef = v) (hq2 : a.tmps.getD q2 undef = v2) (hb : Box w g vs t)
    (hu : P.underlying ty = some d) (hd : (match d with | .struct _ | .array _ _ => true | _ => false) = true) (hi : (P.info? ty).map (·.size) = some vs.length) (hdf : a.defers = []) (hR : R (.returned (.tuple #[.agg vs.toArray, v, v2])) w) : bodyPost P fn R .ret a w := by
  have hp' : a.tmps[p]?.getD undef = .pointer (some ⟨g, 0, none⟩) := by simpa using hp
  have hq' : a.tmps[q]?.getD undef = v := by simpa using hq
  have hq2' : a.tmps[q2]?.getD undef = v2 := by simpa using hq2
  refine bodyPost_ret ?_ hdf hR
  simp [results, hr, hp', hq', hq2', asAddr, run_loadVar_row w g t ty vs.toArray (0, 0) d hb hu hd (by simpa using hi)]
theorem drew_heap (w : World) : w.drew.heap = w.heap := rfl
def RetA (w0 : World) (r : (List Fld × Int) × Nat × Int) (e : Ending) (w' : World) : Prop := ∃ A c, e = .returned (.tuple #[.agg #[.slice A r.1.1.length c, .int .i64 r.1.2], .int .i64 r.2.1, .int .i64 r.2.2]) ∧ r.1.1.length ≤ c ∧ RdF w' A r.1.1 ∧ Frm w0.heap.size A ∧ Below w0.heap.size w0 w'
theorem retA {w0 w' : World} {r : (List Fld × Int) × Nat × Int} {l : List Fld} {nx : Int} {i : Nat} {er : Int} {A : Option Addr} {c : Nat} (hv : r = ((l, nx), i, er)) (hc : l.length ≤ c) (hr : RdF w' A l) (hf : Frm w0.heap.size A) (hB : Below w0.heap.size w0 w') : RetA w0 r (.returned (.tuple #[.agg #[.slice A l.length c, .int .i64 nx], .int .i64 i, .int .i64 er])) w' := by
  subst hv; exact ⟨A, c, rfl, hc, hr, hf, hB⟩
def oks (cs : List Chg) : Prop := ∀ c ∈ cs, c.ok
set_option maxRecDepth 100000 in
set_option maxHeartbeats 1600000 in
theorem rAfter (A0 : Option Addr) (c0 : Nat) (cs : List Chg) (w : World) (hr : RdG w A0 cs) (hl : cs.length ≤ 400) (hs : oks cs) :
    Calls Try.prog 7 #[.slice A0 cs.length c0] w (RetA w (afterR cs)) := by
  go_enter Try.func7, Try.ntmps7
  go_upto_region 2 with (go_at_call 27; refine (rNew _).mono ?_; rintro e w1 ⟨rfl, hb⟩)
  have hz := hb.size
  simp at hz
  refine wp_letter ?_
  intro W hW
  have h0 : Box W w.heap.size [.slice none 0 0, .int .i64 0] 31 := by subst hW; exact (((box_new _ _ _ rfl).keep hb)).alloc _
  have h1 : Box W w1.heap.size [.slice none 0 0, .int .i64 1] 31 := by subst hW; exact box_new _ _ _ rfl
  have hB : Below w.heap.size w W := by subst hW; exact below_alloc (below_of (by repeat (first | exact below_refl _ | apply below_alloc | apply below_drew | apply below_drewN)) hb) _
  have hz1 : w.heap.size < w1.heap.size := by omega
  clear hW
  go_wp2
  go_loopw [6] (fun i wr => ∃ (k : Nat) (A : Option Addr) (cp : Nat) (l : List Fld) (nx : Int), i = .int .i64 k ∧ k ≤ cs.length ∧ Hid (afterGo (cs.drop k) (l, nx) k = afterR cs) ∧ Below w.heap.size w wr ∧ Box wr w.heap.size [.slice none 0 0, .int .i64 0] 31 ∧ Box wr w1.heap.size [.slice A l.length cp, .int .i64 nx] 31 ∧ l.length ≤ cp ∧ RdF wr A l ∧ Frm (w.heap.size + 1) A ∧ l.length ≤ 2 * k ∧ 1 ≤ nx ∧ nx ≤ 1 + 2 * k ∧ fsok l) (fun i _ => cs.length - (intOf i).toNat)
  case atStart => exact ⟨0, none, 0, [], 1, rfl, by omega, rfl, hB, h0, h1, Nat.le_refl _, Rd.nil _ _ _ _, Frm.none _, by simp, by omega, by omega, fun f hf => by simp at hf⟩
  case round =>
    obtain ⟨k, A, cp, l, nx, rfl, hk, hgo, HB, k0, k1, hcp, hrl, hfl, hll, hnx0, hnx1, hfs⟩ := hrel
    have k0z := k0.lt; have k0c0 := k0.cell 0 _ rfl; have k0f0 := k0.frozen 0; have k0c1 := k0.cell 1 _ rfl; have k0f1 := k0.frozen 1; have k1z := k1.lt; have k1c0 := k1.cell 0 _ rfl; have k1f0 := k1.frozen 0; have k1c1 := k1.cell 1 _ rfl; have k1f1 := k1.frozen 1
    by_cases hlt : k < cs.length
    · obtain ⟨b, o, rfl, hbw, hb, f0, f1, f2, f3, f4, f5, f6, f7⟩ := RdG.atk hr HB k hlt
      have hi0 : (0 : Int) ≤ (k : Int) := by omega
      have hi1 : (k : Int) < (cs.length : Int) := by omega
      have hst := Lib.hid (afterGo_step hlt (l, nx))
      have hgr := Lib.hid (applyR_grows l nx cs[k])
      have hfr := Lib.hid (applyR_fsok (nx := nx) hfs (hs cs[k] (List.getElem_mem hlt)))
      have hck := hs cs[k] (List.getElem_mem hlt)
      go_upto_region 5 with (fail)
      go_cut [7, 8] (fun p q wc => ∃ (b : Nat) (A1 : Option Addr) (c1 : Nat), p = .pointer (some ⟨b, 0, none⟩) ∧ q = .int .i64 (applyR l nx cs[k]).1 ∧ wr.heap.size ≤ b ∧ Below wr.heap.size wr wc ∧ Box wc b [.slice A1 (applyR l nx cs[k]).2.1.length c1, .int .i64 (applyR l nx cs[k]).2.2] 31 ∧ (applyR l nx cs[k]).2.1.length ≤ c1 ∧ RdF wc A1 (applyR l nx cs[k]).2.1 ∧ Frm wr.heap.size A1)
      case first =>
        refine region_ord (fun w' => Below wr.heap.size wr w') [11] (.q 0 (.q 1 (.q 2 (.q 3 (.q 4 (.two 5 9 (.q 6 (.q 7 (.q 8 (.g 9 (.g 10 (.g 11 .e)))))) (.g 5 (.q 6 (.q 7 (.q 8 (.g 10 (.g 11 .e)))))))))))) (by kernel_rfl) (by kernel_rfl) (fun _ _ d _ _ h => by cases d <;> exact h) (by repeat (first | exact below_refl _ | apply below_alloc | apply below_drew | apply below_drewN)) ?_
        repeat (refine ord_q (v := ?_) rfl (by rfl) ?_ ?_; rotate_left; (focus (intro w' hS; have s0 := cell_keep hS k1c0; have s1 := cell_keep hS k1c1; have s2 := cell_keep hS f0; have s3 := cell_keep hS f1; have s4 := cell_keep hS f2; have s5 := cell_keep hS f3; have s6 := cell_keep hS f4; have s7 := cell_keep hS f5; have s8 := cell_keep hS f6; have s9 := cell_keep hS f7; go_simp; exact rfl)); simp only [Act.put, List.setIfInBounds_toArray, List.set_cons_zero, List.set_cons_succ])
        refine ord_two rfl rfl (by rfl) (by rfl) ?_ ?_
        · intro K hK; go_simp
          refine (rApply _ _ _ _ cs[k] _ (hrl.keep (by repeat (first | exact below_refl _ | apply below_alloc | apply below_drew | apply below_drewN))) (by omega) (by omega) (by omega) hck hfs).mono ?_
          rintro e wa ⟨A1, c1, rfl, hc1, hr1, hf1, hba⟩
          have hba := below_of (by exact (by repeat (first | exact below_refl _ | apply below_alloc | apply below_drew | apply below_drewN)) : Below wr.heap.size wr wr.drew) hba
          refine hK.out _ _ hba ?_
          repeat (refine ord_q (v := ?_) rfl (by rfl) ?_ ?_; rotate_left; (focus (intro w' hS; go_simp; exact rfl)); simp only [Act.put, List.setIfInBounds_toArray, List.set_cons_zero, List.set_cons_succ])
          refine ord_g (by rfl) (by rfl) ?_; intro K hK; go_simp; refine hK.out _ _ (below_alloc hba _) ?_
          refine ord_g (by rfl) (by rfl) ?_; intro K hK; go_simp; refine hK.out _ _ (below_alloc hba _) ?_
          refine ord_l (by rfl) rfl (by rfl) ?_; intro K hK; go_simp; refine hK.out _ _ ?_
          refine ord_e ?_
          go_wp2
          go_meet
          case rel => exact ⟨_, _, _, rfl, rfl, hba.size, below_alloc hba _, box_new _ _ _ rfl, hc1, hr1.keep (by repeat (first | exact below_refl _ | apply below_alloc | apply below_drew | apply below_drewN)), hf1.le (Nat.le_refl _)⟩
        · intro K hK; go_simp; refine hK.out _ _ (by repeat (first | exact below_refl _ | apply below_alloc | apply below_drew | apply below_drewN)) ?_
          refine ord_g (by rfl) (by rfl) ?_; intro K hK
          go_simp
          refine (rApply _ _ _ _ cs[k] _ (hrl.keep (by repeat (first | exact below_refl _ | apply below_alloc | apply below_drew | apply below_drewN))) (by omega) (by omega) (by omega) hck hfs).mono ?_
          rintro e wa ⟨A1, c1, rfl, hc1, hr1, hf1, hba⟩
          have hbx := (box_new wr [.slice none 0 0, .int .i64 0] 31 rfl).keep (below_of (by repeat (first | exact below_refl _ | apply below_alloc | apply below_drew | apply below_drewN)) hba)
          have hfz := hf1.le (b' := wr.heap.size + 1) (by rw [drew_heap]; simp)
          have hba := below_of (by exact (by repeat (first | exact below_refl _ | apply below_alloc | apply below_drew | apply below_drewN)) : Below wr.heap.size wr (wr.alloc (.cells #[.slice none 0 0, .int .i64 0] 31)).drew) hba
          refine hK.out _ _ hba ?_
          have hbxz := hbx.lt; have hbxc0 := hbx.cell 0 _ rfl; have hbxf0 := hbx.frozen 0; have hbxc1 := hbx.cell 1 _ rfl; have hbxf1 := hbx.frozen 1
          repeat (refine ord_q (v := ?_) rfl (by rfl) ?_ ?_; rotate_left; (focus (intro w' hS; go_simp; exact rfl)); simp only [Act.put, List.setIfInBounds_toArray, List.set_cons_zero, List.set_cons_succ])
          refine ord_g (by rfl) (by rfl) ?_; intro K hK; go_simp; refine hK.out _ _ (below_set (below_set hba (by first | omega | (simp; done) | (simp; omega)) _) (by first | omega | (simp; done) | (simp; omega)) _) ?_
          refine ord_l (by rfl) rfl (by rfl) ?_; intro K hK; go_simp; refine hK.out _ _ ?_
          refine ord_e ?_
          go_wp2
          go_meet
          case rel => exact ⟨_, _, _, rfl, rfl, Nat.le_refl _, below_set (below_set hba (by first | omega | (simp; done) | (simp; omega)) _) (by first | omega | (simp; done) | (simp; omega)) _, (hbx.set 0 _).set 1 _, hc1, (hr1.far hfz (by simp) _).far hfz (by simp) _, hfz.le (by omega)⟩
      case rest =>
        obtain ⟨b5, A1, c1, rfl, rfl, hb5, HBc, m1, hc1, hr1, hf1⟩ := hcut
        generalize hR : applyR l nx cs[k] = r at *
        have m0 := k0.keep HBc
        have m2 := k1.keep HBc
        have m0z := m0.lt; have m0c0 := m0.cell 0 _ rfl; have m0f0 := m0.frozen 0; have m0c1 := m0.cell 1 _ rfl; have m0f1 := m0.frozen 1; have m1z := m1.lt; have m1c0 := m1.cell 0 _ rfl; have m1c1 := m1.cell 1 _ rfl; have m2z := m2.lt; have m2c0 := m2.cell 0 _ rfl; have m2f0 := m2.frozen 0; have m2c1 := m2.cell 1 _ rfl; have m2f1 := m2.frozen 1
        have hBc := below_of HB HBc
        go_wp2
        · have hne : (r.1 != 0) = true := by assumption
          have hv : Hid (afterR cs = ((l, nx), k, r.1)) := by rw [← hgo.out, hst.out]; rw [if_pos hne]; exact rfl
          exact end_cell_tmp2 (t := 31) rfl rfl rfl rfl ((m0.set 0 _).set 1 _) Try.underlying31 rfl rfl rfl (retA hv.out hcp (((hrl.keep HBc).far hfl (by simp) _).far hfl (by simp) _) (hfl.le (by omega)) (below_set (below_set hBc (by first | omega | (simp; done) | (simp; omega)) _) (by first | omega | (simp; done) | (simp; omega)) _))
        · have hne : (r.1 != 0) = false := by assumption
          have h0r : r.1 = 0 := by simpa using hne
          obtain ⟨hg1, hg2⟩ := hgr.out
          obtain ⟨hg3, hg4⟩ := hg2 h0r
          have hv : Hid (afterGo (cs.drop (k + 1)) r.2 (k + 1) = afterR cs) := by rw [← hgo.out, hst.out]; rw [if_neg (by rw [hne]; decide)]; exact rfl
          have hfw := hf1.le (b' := w.heap.size + 1) (by omega)
          have hfw2 := hf1.le (b' := w1.heap.size + 1) (by omega)
          go_roundw
          case rel => exact ⟨k + 1, A1, c1, r.2.1, r.2.2, by go_num, by omega, hv, below_set (below_set hBc (by first | omega | (simp; done) | (simp; omega)) _) (by first | omega | (simp; done) | (simp; omega)) _, (m0.far (by first | omega | (simp; done) | (simp; omega)) _).far (by first | omega | (simp; done) | (simp; omega)) _, (m2.set 0 _).set 1 _, hc1, (hr1.far hfw2 (by simp) _).far hfw2 (by simp) _, hfw, by omega, by omega, by omega, hfr.out⟩
          case measure => simp [intOf]; omega
    · go_wp2
      have hfin : Hid (afterR cs = ((l, nx), k, 0)) := by rw [← hgo.out, List.drop_eq_nil_of_le (by omega)]; exact rfl
      obtain rfl : k = cs.length := by omega
      exact end_cell_tmp2 (t := 31) rfl rfl rfl rfl ((k0.set 0 _).set 1 _) Try.underlying31 rfl rfl rfl (retA hfin.out hcp ((hrl.far hfl (by simp) _).far hfl (by simp) _) (hfl.le (by omega)) (below_set (below_set HB (by first | omega | (simp; done) | (simp; omega)) _) (by first | omega | (simp; done) | (simp; omega)) _))
end Go.Proofs.Ythcphdgfdkgimaa
