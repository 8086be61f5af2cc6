/- The references of fenlandref06, part F. -/
import Derived.Test.YthcphdgfdkgimaaRefE
set_option linter.unusedSimpArgs false
set_option linter.unusedVariables false
namespace Go.Proofs.Ythcphdgfdkgimaa
open Go.RowKit
theorem withR_len (l : List Fld) (f : Fld) : (withR l f).length = l.length := by simp [withR]
def deepAny (l : List Fld) : Bool := l.any fun g => decide (8 < depthR l 9 g.id)
def moveR (l : List Fld) (nx : Int) (f : Fld) (parent : Int) : Int × List Fld × Int :=
  if grp l parent = false then bad 63 else if insideR l f.id 9 parent = true then bad 63 else if deepAny (withR l ⟨f.id, f.name, f.ty, parent⟩) = true then bad 63 else if takenR l f.name parent f.id f.id = true then bad 60 else (0, withR l ⟨f.id, f.name, f.ty, parent⟩, nx)
set_option maxRecDepth 100000 in
set_option maxHeartbeats 400000 in
theorem rMove (A : Option Addr) (cp : Nat) (l : List Fld) (nx : Int) (f : Fld) (parent : Int) (w : World) (hr : RdF w A l) (hl : l.length ≤ 900) (hs : f.name.size ≤ 9223372036854775807) :
    Calls Try.prog 69 #[.agg #[.slice A l.length cp, .int .i64 nx], fldV f, .int .i64 parent] w (RetE w (moveR l nx f parent)) := by
  go_enter Try.func69, Try.ntmps69
  go_upto_region 1 with (fail)
  refine wp_letter ?_
  intro W hW
  have h0 : Box W w.heap.size [.slice A l.length cp, .int .i64 nx] 31 := by subst hW; exact ((box_new _ _ _ rfl).alloc _).alloc _
  have h1 : Box W (w.heap.size + 1) f.enc 53 := by subst hW; exact (box_new _ _ _ (by simp)).alloc _
  have h2 : Box W (w.heap.size + 1 + 1) [.slice none 0 0, .int .i64 0] 31 := by subst hW; exact box_new _ _ _ (by simp)
  have hB : Below w.heap.size w W := by subst hW; exact (by repeat (first | exact below_refl _ | apply below_alloc | apply below_drew | apply below_drewN))
  clear hW
  have h0z := h0.lt; have h0c0 := h0.cell 0 _ rfl; have h0c1 := h0.cell 1 _ rfl; have h1z := h1.lt; have h1c0 := h1.cell 0 _ rfl; have h1f0 := h1.frozen 0; have h1c1 := h1.cell 1 _ rfl; have h1f1 := h1.frozen 1; have h1c2 := h1.cell 2 _ rfl; have h1f2 := h1.frozen 2; have h1c3 := h1.cell 3 _ rfl; have h1f3 := h1.frozen 3; have h2z := h2.lt; have h2c0 := h2.cell 0 _ rfl; have h2f0 := h2.frozen 0; have h2c1 := h2.cell 1 _ rfl; have h2f1 := h2.frozen 1
  have hl2 := hr.1
  go_upto_region 5 with (first
    | (go_at_call 34; refine (rGroup _ _ _ _ _ _ (hr.keep (below_of hB (by repeat (first | exact below_refl _ | apply below_alloc | apply below_drew | apply below_drewN))))).mono ?_; rintro e w1 ⟨rfl, hb⟩; obtain ⟨hc, hf⟩ := bcell hb; have hz := hb.size; (try simp at hz); have hB := below_of (below_of hB (by repeat (first | exact below_refl _ | apply below_alloc | apply below_drew | apply below_drewN))) hb; have h0 := (h0.keep (by repeat (first | exact below_refl _ | apply below_alloc | apply below_drew | apply below_drewN))).keep hb; have h0z := h0.lt; have h0c0 := h0.cell 0 _ rfl; have h0c1 := h0.cell 1 _ rfl; have h1 := (h1.keep (by repeat (first | exact below_refl _ | apply below_alloc | apply below_drew | apply below_drewN))).keep hb; have h1z := h1.lt; have h1c0 := h1.cell 0 _ rfl; have h1f0 := h1.frozen 0; have h1c1 := h1.cell 1 _ rfl; have h1f1 := h1.frozen 1; have h1c2 := h1.cell 2 _ rfl; have h1f2 := h1.frozen 2; have h1c3 := h1.cell 3 _ rfl; have h1f3 := h1.frozen 3; have h2 := (h2.keep (by repeat (first | exact below_refl _ | apply below_alloc | apply below_drew | apply below_drewN))).keep hb; have h2z := h2.lt; have h2c0 := h2.cell 0 _ rfl; have h2f0 := h2.frozen 0; have h2c1 := h2.cell 1 _ rfl; have h2f1 := h2.frozen 1)
    | (go_at_call 76; refine (rInside _ _ _ _ _ _ _ (hr.keep (below_of hB (by repeat (first | exact below_refl _ | apply below_alloc | apply below_drew | apply below_drewN))))).mono ?_; rintro e w1 ⟨rfl, hb⟩; obtain ⟨hc, hf⟩ := bcell hb; have hz := hb.size; (try simp at hz); have hB := below_of (below_of hB (by repeat (first | exact below_refl _ | apply below_alloc | apply below_drew | apply below_drewN))) hb; have h0 := (h0.keep (by repeat (first | exact below_refl _ | apply below_alloc | apply below_drew | apply below_drewN))).keep hb; have h0z := h0.lt; have h0c0 := h0.cell 0 _ rfl; have h0c1 := h0.cell 1 _ rfl; have h1 := (h1.keep (by repeat (first | exact below_refl _ | apply below_alloc | apply below_drew | apply below_drewN))).keep hb; have h1z := h1.lt; have h1c0 := h1.cell 0 _ rfl; have h1f0 := h1.frozen 0; have h1c1 := h1.cell 1 _ rfl; have h1f1 := h1.frozen 1; have h1c2 := h1.cell 2 _ rfl; have h1f2 := h1.frozen 2; have h1c3 := h1.cell 3 _ rfl; have h1f3 := h1.frozen 3; have h2 := (h2.keep (by repeat (first | exact below_refl _ | apply below_alloc | apply below_drew | apply below_drewN))).keep hb; have h2z := h2.lt; have h2c0 := h2.cell 0 _ rfl; have h2f0 := h2.frozen 0; have h2c1 := h2.cell 1 _ rfl; have h2f1 := h2.frozen 1)
    | (go_at_call 68; refine (rWith _ _ _ _ ⟨f.id, f.name, f.ty, parent⟩ _ (hr.keep (below_set (below_of hB (by repeat (first | exact below_refl _ | apply below_alloc | apply below_drew | apply below_drewN))) (by first | omega | (simp; done) | (simp; omega)) _)) (by omega)).mono ?_; rintro e w1 ⟨A1, c1, rfl, hc1, hr1, hf1, hb⟩; have h0 := ((h0.keep (by repeat (first | exact below_refl _ | apply below_alloc | apply below_drew | apply below_drewN))).far (a := ⟨w.heap.size + 1, 3, none⟩) (by first | omega | (simp; done) | (simp; omega)) (.int .i64 parent)).keep hb; have h1 := ((h1.keep (by repeat (first | exact below_refl _ | apply below_alloc | apply below_drew | apply below_drewN))).set 3 (.int .i64 parent)).keep hb; have h2 := ((h2.keep (by repeat (first | exact below_refl _ | apply below_alloc | apply below_drew | apply below_drewN))).far (a := ⟨w.heap.size + 1, 3, none⟩) (by first | omega | (simp; done) | (simp; omega)) (.int .i64 parent)).keep hb; have hB := below_of (below_set (below_of hB (by repeat (first | exact below_refl _ | apply below_alloc | apply below_drew | apply below_drewN))) (p := ⟨w.heap.size + 1, 3, none⟩) (by first | omega | (simp; done) | (simp; omega)) (.int .i64 parent)) hb; have hz := hb.size; have h2z := h2.lt))
  any_goals exact end_cell_tmp (t := 31) rfl rfl rfl (((h2.keep (by repeat (first | exact below_refl _ | apply below_alloc | apply below_drew | apply below_drewN))).set 0 _).set 1 _) Try.underlying31 rfl rfl rfl (ret_bad (by unfold moveR; (repeat (first | (refine (if_pos ?_).trans ?_; (focus (first | assumption | omega | (simp [*]; done)))) | (refine (if_neg ?_).trans ?_; (focus (first | assumption | omega | (simp [*]; done)))))); try (first | rfl | (simp [*]; done))) (below_set (below_set (below_of hB (by repeat (first | exact below_refl _ | apply below_alloc | apply below_drew | apply below_drewN))) (by first | omega | (simp; done) | (simp; omega)) _) (by first | omega | (simp; done) | (simp; omega)) _))
  rename_i hin
  have hgr : grp l parent = true := by assumption
  have hfz := hf1.le (b' := w.heap.size + 1 + 1 + 1) (by first | omega | (simp; done) | (simp; omega))
  refine wp_letter ?_
  intro W5 hW
  have k0 : Box W5 w.heap.size [.slice A l.length cp, .int .i64 nx] 31 := by subst hW; exact h0.alloc _
  have k1 : Box W5 (w.heap.size + 1) [.int .i64 f.id, .string f.name, .int .i64 f.ty, .int .i64 parent] 53 := by subst hW; exact h1.alloc _
  have k2 : Box W5 (w.heap.size + 1 + 1) [.slice none 0 0, .int .i64 0] 31 := by subst hW; exact h2.alloc _
  have k3 : Box W5 w1.heap.size [.slice A1 (withR l ⟨f.id, f.name, f.ty, parent⟩).length c1, .int .i64 nx] 31 := by subst hW; exact box_new _ _ _ rfl
  have hr5 : RdF W5 A1 (withR l ⟨f.id, f.name, f.ty, parent⟩) := by subst hW; exact hr1.keep (by repeat (first | exact below_refl _ | apply below_alloc | apply below_drew | apply below_drewN))
  have hB5 : Below w.heap.size w W5 := by subst hW; exact below_of hB (by repeat (first | exact below_refl _ | apply below_alloc | apply below_drew | apply below_drewN))
  clear hW
  have hl5 := hr5.1
  generalize hout : withR l ⟨f.id, f.name, f.ty, parent⟩ = out at *
  go_wp2
  go_loopw [9] (fun i wr => ∃ (k : Nat), i = .int .i64 k ∧ k ≤ out.length ∧ Hid (∀ j (h : j < out.length), j < k → decide (8 < depthR out 9 out[j].id) = false) ∧ Below W5.heap.size W5 wr) (fun i _ => out.length - (intOf i).toNat)
  case atStart => exact ⟨0, rfl, by omega, fun j _ hj => absurd hj (by omega), below_refl _⟩
  case round =>
    obtain ⟨k, rfl, hk, hn, HB⟩ := hrel
    have m0 := k0.keep HB
    have m1 := k1.keep HB
    have m2 := k2.keep HB
    have m3 := k3.keep HB
    have m0z := m0.lt; have m0c0 := m0.cell 0 _ rfl; have m0c1 := m0.cell 1 _ rfl; have m1z := m1.lt; have m1c0 := m1.cell 0 _ rfl; have m1c1 := m1.cell 1 _ rfl; have m1c2 := m1.cell 2 _ rfl; have m1c3 := m1.cell 3 _ rfl; have m2z := m2.lt; have m2c0 := m2.cell 0 _ rfl; have m2f0 := m2.frozen 0; have m2c1 := m2.cell 1 _ rfl; have m2f1 := m2.frozen 1; have m3z := m3.lt; have m3c0 := m3.cell 0 _ rfl; have m3c1 := m3.cell 1 _ rfl
    have hB := below_of hB5 HB
    by_cases hlt : k < out.length
    · obtain ⟨b, o, rfl, hbw, hb, f0, f1, f2, f3⟩ := RdF.atk hr5 HB k hlt
      go_wp2
      refine region_below (by kernel_rfl) (by kernel_rfl) ?_; (repeat (first | (refine quiet_on (v := ?_) (by rfl) ?_ ?_; rotate_left; (focus (intro w' hS; have s0 := cell_keep hS m3c0; have s1 := cell_keep hS m3c1; have s2 := cell_keep hS f0; go_simp; first | exact rfl | (refine (rDepth _ _ _ _ _ _ (hr5.keep (below_of HB hS))).mono ?_; rintro e w1 ⟨rfl, hb⟩; refine ⟨?_, below_of hS hb⟩; exact rfl))); simp only [Act.put, List.setIfInBounds_toArray, List.set_cons_zero, List.set_cons_succ]) | (refine quiet_off (by rfl) ?_; simp only [Act.put, List.setIfInBounds_toArray, List.set_cons_zero, List.set_cons_succ]))); refine wpQuiet_nil ?_; intro wq hq; try dsimp only
      have hBq := below_of HB hq
      have q2 := m2.keep hq
      have q2z := q2.lt; have q2c0 := q2.cell 0 _ rfl; have q2f0 := q2.frozen 0; have q2c1 := q2.cell 1 _ rfl; have q2f1 := q2.frozen 1
      go_wp2
      · exact end_cell_tmp (t := 31) rfl rfl rfl (((q2.keep (by repeat (first | exact below_refl _ | apply below_alloc | apply below_drew | apply below_drewN))).set 0 _).set 1 _) Try.underlying31 rfl rfl rfl (ret_bad (by unfold moveR; rw [hout, deepAny, any_yes hlt (by simp; omega)]; (repeat (first | (refine (if_pos ?_).trans ?_; (focus (first | assumption | omega | (simp [*]; done)))) | (refine (if_neg ?_).trans ?_; (focus (first | assumption | omega | (simp [*]; done)))))); try (first | rfl | (simp [*]; done))) (below_set (below_set (below_of hB5 hBq) (by first | omega | (simp; done) | (simp; omega)) _) (by first | omega | (simp; done) | (simp; omega)) _))
      · go_roundw
        case rel => exact ⟨k + 1, by go_num, by omega, upto_step hn.out (fun _ => by simp; omega), hBq⟩
        case measure => simp [intOf]; omega
    · have hda : Hid (deepAny out = false) := any_not (fun j h => hn.out j h (by omega))
      go_wp2_with (go_at_call 65; refine (rTaken _ _ _ _ _ _ _ _ _ _ _ (hr.keep (below_of hB (by repeat (first | exact below_refl _ | apply below_alloc | apply below_drew | apply below_drewN)))) hs).mono ?_; rintro e w1 ⟨rfl, hb⟩; obtain ⟨hc, hf⟩ := bcell hb; have hz := hb.size; (try simp at hz); have hB := below_of (below_of hB (by repeat (first | exact below_refl _ | apply below_alloc | apply below_drew | apply below_drewN))) hb; have m0 := (m0.keep (by repeat (first | exact below_refl _ | apply below_alloc | apply below_drew | apply below_drewN))).keep hb; have m0z := m0.lt; have m0c0 := m0.cell 0 _ rfl; have m0c1 := m0.cell 1 _ rfl; have m1 := (m1.keep (by repeat (first | exact below_refl _ | apply below_alloc | apply below_drew | apply below_drewN))).keep hb; have m1z := m1.lt; have m1c0 := m1.cell 0 _ rfl; have m1c1 := m1.cell 1 _ rfl; have m1c2 := m1.cell 2 _ rfl; have m1c3 := m1.cell 3 _ rfl; have m2 := (m2.keep (by repeat (first | exact below_refl _ | apply below_alloc | apply below_drew | apply below_drewN))).keep hb; have m2z := m2.lt; have m2c0 := m2.cell 0 _ rfl; have m2f0 := m2.frozen 0; have m2c1 := m2.cell 1 _ rfl; have m2f1 := m2.frozen 1; have m3 := (m3.keep (by repeat (first | exact below_refl _ | apply below_alloc | apply below_drew | apply below_drewN))).keep hb; have m3z := m3.lt; have m3c0 := m3.cell 0 _ rfl; have m3c1 := m3.cell 1 _ rfl)
      · exact end_cell_tmp (t := 31) rfl rfl rfl (((m2.keep (by repeat (first | exact below_refl _ | apply below_alloc | apply below_drew | apply below_drewN))).set 0 _).set 1 _) Try.underlying31 rfl rfl rfl (ret_bad (by unfold moveR; rw [hout, hda.out]; (repeat (first | (refine (if_pos ?_).trans ?_; (focus (first | assumption | omega | (simp [*]; done)))) | (refine (if_neg ?_).trans ?_; (focus (first | assumption | omega | (simp [*]; done)))))); try (first | rfl | (simp [*]; done))) (below_set (below_set (below_of hB (by repeat (first | exact below_refl _ | apply below_alloc | apply below_drew | apply below_drewN))) (by first | omega | (simp; done) | (simp; omega)) _) (by first | omega | (simp; done) | (simp; omega)) _))
      · exact end_cell_tmp (t := 31) rfl rfl rfl (((m2.keep (by repeat (first | exact below_refl _ | apply below_alloc | apply below_drew | apply below_drewN))).set 0 _).set 1 _) Try.underlying31 rfl rfl rfl (ret_ok (by unfold moveR; rw [hout, hda.out]; (repeat (first | (refine (if_pos ?_).trans ?_; (focus (first | assumption | omega | (simp [*]; done)))) | (refine (if_neg ?_).trans ?_; (focus (first | assumption | omega | (simp [*]; done)))))); try (first | rfl | (simp [*]; done))) hc1 (((hr5.keep (below_of HB hb)).far hfz (by simp) _).far hfz (by simp) _) (hfz.le (by omega)) (below_set (below_set (below_of hB (by repeat (first | exact below_refl _ | apply below_alloc | apply below_drew | apply below_drewN))) (by first | omega | (simp; done) | (simp; omega)) _) (by first | omega | (simp; done) | (simp; omega)) _))
end Go.Proofs.Ythcphdgfdkgimaa
