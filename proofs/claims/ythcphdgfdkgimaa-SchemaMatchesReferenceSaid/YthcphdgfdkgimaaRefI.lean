/- The references of fenlandref06, part I. -/
import Derived.Test.YthcphdgfdkgimaaRefH
set_option linter.unusedSimpArgs false
set_option linter.unusedVariables false
namespace Go.Proofs.Ythcphdgfdkgimaa
open Go.RowKit
def joinR (l : List Fld) (nx : Int) (c : Chg) : Int × List Fld × Int :=
  if hasF l c.id = false then bad 61 else if hasF l c.wit = false then bad 61 else
  if ((getF l c.id).id == (getF l c.wit).id) = true then bad 61 else
  if ((getF l c.id).ty != 4) = true then bad 7 else if ((getF l c.wit).ty != 4) = true then bad 7 else
  if ((getF l c.id).par != (getF l c.wit).par) = true then bad 63 else
  if (!sepOk c.sep) = true then bad 1 else
  if takenR l c.name (getF l c.id).par (getF l c.id).id (getF l c.wit).id = true then bad 60 else
  if nx ≥ 1073741824 then bad 2 else
  (0, plusR (withoutR l (getF l c.id).id (getF l c.wit).id) nx ⟨0, c.name, 4, (getF l c.id).par⟩, nx + 1)
set_option maxRecDepth 100000 in
set_option maxHeartbeats 1600000 in
theorem rJoin (A : Option Addr) (cp : Nat) (l : List Fld) (nx : Int) (c : Chg) (w : World) (hr : RdF w A l) (hl : l.length ≤ 900) (hn0 : -1000000000 ≤ nx) (hn1 : nx ≤ 100000000000) (hs : c.name.size ≤ 9223372036854775807) (hs3 : c.sep.size ≤ 9223372036854775807) :
    Calls Try.prog 46 #[.agg #[.slice A l.length cp, .int .i64 nx], chgV c] w (RetE w (joinR l nx c)) := by
  go_enter Try.func46, Try.ntmps46
  go_upto_region 1 with (fail)
  refine wp_letter ?_
  intro W hW
  have h0 : Box W w.heap.size [.slice A l.length cp, .int .i64 nx] 31 := by subst hW; exact ((box_new _ _ _ rfl).alloc _).alloc _
  have h1 : Box W (w.heap.size + 1) c.enc 43 := by subst hW; exact (box_new _ _ _ (by simp)).alloc _
  have h2 : Box W (w.heap.size + 1 + 1) [.slice none 0 0, .int .i64 0] 31 := by subst hW; exact box_new _ _ _ (by simp)
  have hB : Below w.heap.size w W := by subst hW; exact (by repeat (first | exact below_refl _ | apply below_alloc | apply below_drew | apply below_drewN))
  clear hW
  have h0z := h0.lt; have h0c0 := h0.cell 0 _ rfl; have h0c1 := h0.cell 1 _ rfl; have h1z := h1.lt; have h1c0 := h1.cell 0 _ rfl; have h1c1 := h1.cell 1 _ rfl; have h1c2 := h1.cell 2 _ rfl; have h1c3 := h1.cell 3 _ rfl; have h1c4 := h1.cell 4 _ rfl; have h1c5 := h1.cell 5 _ rfl; have h1c6 := h1.cell 6 _ rfl; have h1c7 := h1.cell 7 _ rfl; have h2z := h2.lt; have h2c0 := h2.cell 0 _ rfl; have h2f0 := h2.frozen 0; have h2c1 := h2.cell 1 _ rfl; have h2f1 := h2.frozen 1
  have hl2 := hr.1
  go_upto_region 2 with (go_at_call 20; refine (rField _ _ _ _ _ _ (hr.keep (below_of hB (by repeat (first | exact below_refl _ | apply below_alloc | apply below_drew | apply below_drewN))))).mono ?_; rintro e w1 ⟨rfl, hb⟩; obtain ⟨hc, hf⟩ := bcell hb; have hz := hb.size; (try simp at hz); have hB := below_of (below_of hB (by repeat (first | exact below_refl _ | apply below_alloc | apply below_drew | apply below_drewN))) hb; have h0 := (h0.keep (by repeat (first | exact below_refl _ | apply below_alloc | apply below_drew | apply below_drewN))).keep hb; have h0z := h0.lt; have h0c0 := h0.cell 0 _ rfl; have h0c1 := h0.cell 1 _ rfl; have h1 := (h1.keep (by repeat (first | exact below_refl _ | apply below_alloc | apply below_drew | apply below_drewN))).keep hb; have h1z := h1.lt; have h1c0 := h1.cell 0 _ rfl; have h1c1 := h1.cell 1 _ rfl; have h1c2 := h1.cell 2 _ rfl; have h1c3 := h1.cell 3 _ rfl; have h1c4 := h1.cell 4 _ rfl; have h1c5 := h1.cell 5 _ rfl; have h1c6 := h1.cell 6 _ rfl; have h1c7 := h1.cell 7 _ rfl; have h2 := (h2.keep (by repeat (first | exact below_refl _ | apply below_alloc | apply below_drew | apply below_drewN))).keep hb; have h2z := h2.lt; have h2c0 := h2.cell 0 _ rfl; have h2f0 := h2.frozen 0; have h2c1 := h2.cell 1 _ rfl; have h2f1 := h2.frozen 1)
  generalize hF : getF l c.id = f at *
  generalize hH : hasF l c.id = has at *
  refine wp_letter ?_
  intro W5 hW
  have k0 : Box W5 w.heap.size [.slice A l.length cp, .int .i64 nx] 31 := by subst hW; exact h0.alloc _
  have k1 : Box W5 (w.heap.size + 1) c.enc 43 := by subst hW; exact h1.alloc _
  have k2 : Box W5 (w.heap.size + 1 + 1) [.slice none 0 0, .int .i64 0] 31 := by subst hW; exact h2.alloc _
  have k3 : Box W5 w1.heap.size f.enc 53 := by subst hW; exact box_new _ _ _ rfl
  have hB5 : Below w.heap.size w W5 := by subst hW; exact below_of hB (by repeat (first | exact below_refl _ | apply below_alloc | apply below_drew | apply below_drewN))
  have hz3 : w.heap.size + 1 + 1 < w1.heap.size := h2z
  clear hW hB h0 h1 h2
  have k0z := k0.lt; have k0c0 := k0.cell 0 _ rfl; have k0c1 := k0.cell 1 _ rfl; have k1z := k1.lt; have k1c0 := k1.cell 0 _ rfl; have k1c1 := k1.cell 1 _ rfl; have k1c2 := k1.cell 2 _ rfl; have k1c3 := k1.cell 3 _ rfl; have k1c4 := k1.cell 4 _ rfl; have k1c5 := k1.cell 5 _ rfl; have k1c6 := k1.cell 6 _ rfl; have k1c7 := k1.cell 7 _ rfl; have k2z := k2.lt; have k2c0 := k2.cell 0 _ rfl; have k2f0 := k2.frozen 0; have k2c1 := k2.cell 1 _ rfl; have k2f1 := k2.frozen 1; have k3z := k3.lt; have k3c0 := k3.cell 0 _ rfl; have k3c1 := k3.cell 1 _ rfl; have k3c2 := k3.cell 2 _ rfl; have k3c3 := k3.cell 3 _ rfl
  have hB := hB5
  go_upto_region 3 with (go_at_call 20; refine (rField _ _ _ _ _ _ (hr.keep (below_of hB (by repeat (first | exact below_refl _ | apply below_alloc | apply below_drew | apply below_drewN))))).mono ?_; rintro e w2 ⟨rfl, hb⟩; obtain ⟨hc, hf⟩ := bcell hb; have hz := hb.size; (try simp at hz); have hB := below_of (below_of hB (by repeat (first | exact below_refl _ | apply below_alloc | apply below_drew | apply below_drewN))) hb; have k0 := (k0.keep (by repeat (first | exact below_refl _ | apply below_alloc | apply below_drew | apply below_drewN))).keep hb; have k0z := k0.lt; have k0c0 := k0.cell 0 _ rfl; have k0c1 := k0.cell 1 _ rfl; have k1 := (k1.keep (by repeat (first | exact below_refl _ | apply below_alloc | apply below_drew | apply below_drewN))).keep hb; have k1z := k1.lt; have k1c0 := k1.cell 0 _ rfl; have k1c1 := k1.cell 1 _ rfl; have k1c2 := k1.cell 2 _ rfl; have k1c3 := k1.cell 3 _ rfl; have k1c4 := k1.cell 4 _ rfl; have k1c5 := k1.cell 5 _ rfl; have k1c6 := k1.cell 6 _ rfl; have k1c7 := k1.cell 7 _ rfl; have k2 := (k2.keep (by repeat (first | exact below_refl _ | apply below_alloc | apply below_drew | apply below_drewN))).keep hb; have k2z := k2.lt; have k2c0 := k2.cell 0 _ rfl; have k2f0 := k2.frozen 0; have k2c1 := k2.cell 1 _ rfl; have k2f1 := k2.frozen 1; have k3 := (k3.keep (by repeat (first | exact below_refl _ | apply below_alloc | apply below_drew | apply below_drewN))).keep hb; have k3z := k3.lt; have k3c0 := k3.cell 0 _ rfl; have k3c1 := k3.cell 1 _ rfl; have k3c2 := k3.cell 2 _ rfl; have k3c3 := k3.cell 3 _ rfl)
  generalize hG : getF l c.wit = g at *
  generalize hK2 : hasF l c.wit = has2 at *
  refine wp_letter ?_
  intro W6 hW
  have m0 : Box W6 w.heap.size [.slice A l.length cp, .int .i64 nx] 31 := by subst hW; exact k0.keep (by repeat (first | exact below_refl _ | apply below_alloc | apply below_drew | apply below_drewN))
  have m1 : Box W6 (w.heap.size + 1) c.enc 43 := by subst hW; exact k1.keep (by repeat (first | exact below_refl _ | apply below_alloc | apply below_drew | apply below_drewN))
  have m2 : Box W6 (w.heap.size + 1 + 1) [.slice none 0 0, .int .i64 0] 31 := by subst hW; exact k2.keep (by repeat (first | exact below_refl _ | apply below_alloc | apply below_drew | apply below_drewN))
  have m3 : Box W6 w1.heap.size f.enc 53 := by subst hW; exact k3.keep (by repeat (first | exact below_refl _ | apply below_alloc | apply below_drew | apply below_drewN))
  have m4 : Box W6 w2.heap.size g.enc 53 := by subst hW; exact box_new _ _ _ rfl
  have hB6 : Below w.heap.size w W6 := by subst hW; exact below_of hB (by repeat (first | exact below_refl _ | apply below_alloc | apply below_drew | apply below_drewN))
  clear hW hB k0 k1 k2 k3
  have hB := hB6
  have m0z := m0.lt; have m0c0 := m0.cell 0 _ rfl; have m0c1 := m0.cell 1 _ rfl; have m1z := m1.lt; have m1c0 := m1.cell 0 _ rfl; have m1c1 := m1.cell 1 _ rfl; have m1c2 := m1.cell 2 _ rfl; have m1c3 := m1.cell 3 _ rfl; have m1c4 := m1.cell 4 _ rfl; have m1c5 := m1.cell 5 _ rfl; have m1c6 := m1.cell 6 _ rfl; have m1c7 := m1.cell 7 _ rfl; have m2z := m2.lt; have m2c0 := m2.cell 0 _ rfl; have m2f0 := m2.frozen 0; have m2c1 := m2.cell 1 _ rfl; have m2f1 := m2.frozen 1; have m3z := m3.lt; have m3c0 := m3.cell 0 _ rfl; have m3c1 := m3.cell 1 _ rfl; have m3c2 := m3.cell 2 _ rfl; have m3c3 := m3.cell 3 _ rfl; have m4z := m4.lt; have m4c0 := m4.cell 0 _ rfl; have m4c1 := m4.cell 1 _ rfl; have m4c2 := m4.cell 2 _ rfl; have m4c3 := m4.cell 3 _ rfl
  cases has
  · go_wp2
    exact end_cell_tmp (t := 31) rfl rfl rfl (((m2.keep (by repeat (first | exact below_refl _ | apply below_alloc | apply below_drew | apply below_drewN))).set 0 _).set 1 _) Try.underlying31 rfl rfl rfl (ret_bad (by unfold joinR; rw [hH]; (repeat (first | (refine (if_pos ?_).trans ?_; (focus (first | assumption | omega | (simp [*]; done)))) | (refine (if_neg ?_).trans ?_; (focus (first | assumption | omega | (simp [*]; done)))))); try (first | rfl | (simp [*]; done))) (below_set (below_set (below_of hB (by repeat (first | exact below_refl _ | apply below_alloc | apply below_drew | apply below_drewN))) (by first | omega | (simp; done) | (simp; omega)) _) (by first | omega | (simp; done) | (simp; omega)) _))
  cases has2
  · go_wp2
    exact end_cell_tmp (t := 31) rfl rfl rfl (((m2.keep (by repeat (first | exact below_refl _ | apply below_alloc | apply below_drew | apply below_drewN))).set 0 _).set 1 _) Try.underlying31 rfl rfl rfl (ret_bad (by unfold joinR; rw [hH, hK2]; (repeat (first | (refine (if_pos ?_).trans ?_; (focus (first | assumption | omega | (simp [*]; done)))) | (refine (if_neg ?_).trans ?_; (focus (first | assumption | omega | (simp [*]; done)))))); try (first | rfl | (simp [*]; done))) (below_set (below_set (below_of hB (by repeat (first | exact below_refl _ | apply below_alloc | apply below_drew | apply below_drewN))) (by first | omega | (simp; done) | (simp; omega)) _) (by first | omega | (simp; done) | (simp; omega)) _))
  go_upto_region 12 with (go_at_call 33; refine (rSep _ _ hs3).mono ?_; rintro e w3 ⟨rfl, hww⟩; rw [hww])
  any_goals exact end_cell_tmp (t := 31) rfl rfl rfl (((m2.keep (by repeat (first | exact below_refl _ | apply below_alloc | apply below_drew | apply below_drewN))).set 0 _).set 1 _) Try.underlying31 rfl rfl rfl (ret_bad (by unfold joinR; rw [hH, hK2, hF, hG]; (repeat (first | (refine (if_pos ?_).trans ?_; (focus (first | assumption | omega | (simp [*]; done)))) | (refine (if_neg ?_).trans ?_; (focus (first | assumption | omega | (simp [*]; done)))))); try (first | rfl | (simp [*]; done))) (below_set (below_set (below_of hB (by repeat (first | exact below_refl _ | apply below_alloc | apply below_drew | apply below_drewN))) (by first | omega | (simp; done) | (simp; omega)) _) (by first | omega | (simp; done) | (simp; omega)) _))
  refine wp_letter ?_
  intro W7 hW
  have k0 : Box W7 w.heap.size [.slice A l.length cp, .int .i64 nx] 31 := by subst hW; exact m0.keep (by repeat (first | exact below_refl _ | apply below_alloc | apply below_drew | apply below_drewN))
  have k1 : Box W7 (w.heap.size + 1) c.enc 43 := by subst hW; exact m1.keep (by repeat (first | exact below_refl _ | apply below_alloc | apply below_drew | apply below_drewN))
  have k2 : Box W7 (w.heap.size + 1 + 1) [.slice none 0 0, .int .i64 0] 31 := by subst hW; exact m2.keep (by repeat (first | exact below_refl _ | apply below_alloc | apply below_drew | apply below_drewN))
  have k3 : Box W7 w1.heap.size f.enc 53 := by subst hW; exact m3.keep (by repeat (first | exact below_refl _ | apply below_alloc | apply below_drew | apply below_drewN))
  have k4 : Box W7 w2.heap.size g.enc 53 := by subst hW; exact m4.keep (by repeat (first | exact below_refl _ | apply below_alloc | apply below_drew | apply below_drewN))
  have k5 : Box W7 W6.heap.size [.int .i64 0, .string c.name, .int .i64 4, .int .i64 f.par] 53 := by subst hW; exact box_new _ _ _ rfl
  have hB7 : Below w.heap.size w W7 := by subst hW; exact below_of hB (by repeat (first | exact below_refl _ | apply below_alloc | apply below_drew | apply below_drewN))
  clear hW hB m0 m1 m2 m3 m4
  have hB := hB7
  have k0z := k0.lt; have k0c0 := k0.cell 0 _ rfl; have k0c1 := k0.cell 1 _ rfl; have k1z := k1.lt; have k1c0 := k1.cell 0 _ rfl; have k1c1 := k1.cell 1 _ rfl; have k1c2 := k1.cell 2 _ rfl; have k1c3 := k1.cell 3 _ rfl; have k1c4 := k1.cell 4 _ rfl; have k1c5 := k1.cell 5 _ rfl; have k1c6 := k1.cell 6 _ rfl; have k1c7 := k1.cell 7 _ rfl; have k2z := k2.lt; have k2c0 := k2.cell 0 _ rfl; have k2f0 := k2.frozen 0; have k2c1 := k2.cell 1 _ rfl; have k2f1 := k2.frozen 1; have k3z := k3.lt; have k3c0 := k3.cell 0 _ rfl; have k3c1 := k3.cell 1 _ rfl; have k3c2 := k3.cell 2 _ rfl; have k3c3 := k3.cell 3 _ rfl; have k4z := k4.lt; have k4c0 := k4.cell 0 _ rfl; have k4c1 := k4.cell 1 _ rfl; have k4c2 := k4.cell 2 _ rfl; have k4c3 := k4.cell 3 _ rfl; have k5z := k5.lt; have k5c0 := k5.cell 0 _ rfl; have k5c1 := k5.cell 1 _ rfl; have k5c2 := k5.cell 2 _ rfl; have k5c3 := k5.cell 3 _ rfl
  go_upto_region 16 with (go_at_call 65; refine (rTaken _ _ _ _ _ _ _ _ _ _ _ (hr.keep (below_of hB (by repeat (first | exact below_refl _ | apply below_alloc | apply below_drew | apply below_drewN)))) hs).mono ?_; rintro e w3 ⟨rfl, hb⟩; obtain ⟨hc, hf⟩ := bcell hb; have hz := hb.size; (try simp at hz); have hB := below_of (below_of hB (by repeat (first | exact below_refl _ | apply below_alloc | apply below_drew | apply below_drewN))) hb; have k0 := (k0.keep (by repeat (first | exact below_refl _ | apply below_alloc | apply below_drew | apply below_drewN))).keep hb; have k0z := k0.lt; have k0c0 := k0.cell 0 _ rfl; have k0c1 := k0.cell 1 _ rfl; have k1 := (k1.keep (by repeat (first | exact below_refl _ | apply below_alloc | apply below_drew | apply below_drewN))).keep hb; have k1z := k1.lt; have k1c0 := k1.cell 0 _ rfl; have k1c1 := k1.cell 1 _ rfl; have k1c2 := k1.cell 2 _ rfl; have k1c3 := k1.cell 3 _ rfl; have k1c4 := k1.cell 4 _ rfl; have k1c5 := k1.cell 5 _ rfl; have k1c6 := k1.cell 6 _ rfl; have k1c7 := k1.cell 7 _ rfl; have k2 := (k2.keep (by repeat (first | exact below_refl _ | apply below_alloc | apply below_drew | apply below_drewN))).keep hb; have k2z := k2.lt; have k2c0 := k2.cell 0 _ rfl; have k2f0 := k2.frozen 0; have k2c1 := k2.cell 1 _ rfl; have k2f1 := k2.frozen 1; have k3 := (k3.keep (by repeat (first | exact below_refl _ | apply below_alloc | apply below_drew | apply below_drewN))).keep hb; have k3z := k3.lt; have k3c0 := k3.cell 0 _ rfl; have k3c1 := k3.cell 1 _ rfl; have k3c2 := k3.cell 2 _ rfl; have k3c3 := k3.cell 3 _ rfl; have k4 := (k4.keep (by repeat (first | exact below_refl _ | apply below_alloc | apply below_drew | apply below_drewN))).keep hb; have k4z := k4.lt; have k4c0 := k4.cell 0 _ rfl; have k4c1 := k4.cell 1 _ rfl; have k4c2 := k4.cell 2 _ rfl; have k4c3 := k4.cell 3 _ rfl; have k5 := (k5.keep (by repeat (first | exact below_refl _ | apply below_alloc | apply below_drew | apply below_drewN))).keep hb; have k5z := k5.lt; have k5c0 := k5.cell 0 _ rfl; have k5c1 := k5.cell 1 _ rfl; have k5c2 := k5.cell 2 _ rfl; have k5c3 := k5.cell 3 _ rfl)
  any_goals exact end_cell_tmp (t := 31) rfl rfl rfl (((k2.keep (by repeat (first | exact below_refl _ | apply below_alloc | apply below_drew | apply below_drewN))).set 0 _).set 1 _) Try.underlying31 rfl rfl rfl (ret_bad (by unfold joinR; rw [hH, hK2, hF, hG]; (repeat (first | (refine (if_pos ?_).trans ?_; (focus (first | assumption | omega | (simp [*]; done)))) | (refine (if_neg ?_).trans ?_; (focus (first | assumption | omega | (simp [*]; done)))))); try (first | rfl | (simp [*]; done))) (below_set (below_set (below_of hB (by repeat (first | exact below_refl _ | apply below_alloc | apply below_drew | apply below_drewN))) (by first | omega | (simp; done) | (simp; omega)) _) (by first | omega | (simp; done) | (simp; omega)) _))
  refine region_ord (fun w' => Below w3.heap.size w3 w') [9, 10] (.q 0 (.q 1 (.q 2 (.q 3 (.q 4 (.q 5 (.q 7 (.g 6 (.g 8 (.g 9 (.g 10 .e))))))))))) (by kernel_rfl) (by kernel_rfl) (fun _ _ d _ _ h => by cases d <;> exact h) (by repeat (first | exact below_refl _ | apply below_alloc | apply below_drew | apply below_drewN)) ?_
  repeat (refine ord_q (v := ?_) rfl (by rfl) ?_ ?_; rotate_left; (focus (intro w' hS; have s0 := cell_keep hS k0c0; have s1 := cell_keep hS k0c1; have s2 := cell_keep hS k3c0; have s3 := cell_keep hS k4c0; have s4 := cell_keep hS k5c0; have s5 := cell_keep hS k5c1; have s6 := cell_keep hS k5c2; have s7 := cell_keep hS k5c3; go_simp; exact rfl)); simp only [Act.put, List.setIfInBounds_toArray, List.set_cons_zero, List.set_cons_succ])
  refine ord_g (by rfl) (by rfl) ?_; intro K hK
  go_simp
  refine (rWithout _ _ _ _ _ _ _ (hr.keep (below_of hB (by repeat (first | exact below_refl _ | apply below_alloc | apply below_drew | apply below_drewN)))) (by omega)).mono ?_
  rintro e wa ⟨Aa, ca, rfl, hca, hra, hfa, hba⟩
  have hba := below_of (by exact (by repeat (first | exact below_refl _ | apply below_alloc | apply below_drew | apply below_drewN)) : Below w3.heap.size w3 w3.drew) hba
  have hla := withoutR_len l f.id g.id
  refine hK.out _ _ hba ?_
  refine ord_g (by rfl) (by rfl) ?_; intro K hK
  go_simp
  refine (rPlus _ _ _ _ ⟨0, c.name, 4, f.par⟩ _ hra (by omega) (by omega) (by omega)).mono ?_
  rintro e wc ⟨Ac, cc, rfl, hcc, hrc, hfc, hbc⟩
  have hbc := below_of hba hbc
  refine hK.out _ _ hbc ?_
  have hfz := hfc.le (b' := w.heap.size + 1 + 1 + 1) (by have := hba.size; omega)
  have p2 := k2.keep hbc
  have p2z := p2.lt; have p2c0 := p2.cell 0 _ rfl; have p2f0 := p2.frozen 0; have p2c1 := p2.cell 1 _ rfl; have p2f1 := p2.frozen 1
  refine ord_l (by rfl) rfl (by rfl) ?_; intro K hK; go_simp; refine hK.out _ _ ?_
  refine ord_l (by rfl) rfl (by rfl) ?_; intro K hK; go_simp; refine hK.out _ _ ?_
  refine ord_e ?_
  go_wp2
  exact end_cell_tmp (t := 31) rfl rfl rfl ((p2.set 0 _).set 1 _) Try.underlying31 rfl rfl rfl (ret_ok (by unfold joinR; rw [hH, hK2, hF, hG]; (repeat (first | (refine (if_pos ?_).trans ?_; (focus (first | assumption | omega | (simp [*]; done)))) | (refine (if_neg ?_).trans ?_; (focus (first | assumption | omega | (simp [*]; done)))))); try (first | rfl | (simp [*]; done))) hcc ((hrc.far hfz (by simp) _).far hfz (by simp) _) (hfz.le (by omega)) (below_set (below_set (below_of hB hbc) (by first | omega | (simp; done) | (simp; omega)) _) (by first | omega | (simp; done) | (simp; omega)) _))
end Go.Proofs.Ythcphdgfdkgimaa
