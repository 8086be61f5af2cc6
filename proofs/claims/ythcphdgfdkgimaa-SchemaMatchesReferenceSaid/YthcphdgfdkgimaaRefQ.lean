/- The references of fenlandref05: Fit, Made. -/
import Derived.Test.YthcphdgfdkgimaaRefP
set_option linter.unusedSimpArgs false
set_option linter.unusedVariables false
namespace Go.Proofs.Ythcphdgfdkgimaa
open Go.RowKit
def fitR (v : Val) (t : Int) : Val :=
  if v.nul = true then ⟨true, 0, ⟨#[]⟩⟩ else if (t == 1) = true then ⟨false, bits BinOp.and IntKind.i64 v.n 1, ⟨#[]⟩⟩ else if (t == 2) = true then ⟨false, wrap64 (wrap32 v.n), ⟨#[]⟩⟩ else
    if (t == 5) = true then ⟨false, Int.tmod v.n 1000001, ⟨#[]⟩⟩ else if (t == 4) = true then (if 200 < (v.s.size : Int) then ⟨false, 0, v.s.extract 0 200⟩ else ⟨false, 0, v.s⟩) else ⟨false, v.n, ⟨#[]⟩⟩
theorem ret_val {x y : Val} (h : y = x) : Ending.returned (valV x) = Ending.returned (valV y) := by rw [h]
set_option maxRecDepth 100000 in
set_option maxHeartbeats 1600000 in
theorem rFit (v : Val) (t : Int) (w : World) (hs : v.s.size ≤ 9223372036854775807) : Calls Try.prog 52 #[valV v, .int .i64 t] w fun e w' => e = .returned (valV (fitR v t)) ∧ Below w.heap.size w w' := by
  go_enter Try.func52, Try.ntmps52
  go_wp2
  all_goals
    refine end_cell (t := 25) rfl rfl (box_new _ [.bool _, .int .i64 _, .string _] _ (by simp)) Try.underlying25 rfl rfl rfl ⟨?_, (by repeat (first | exact below_refl _ | apply below_alloc | apply below_drew | apply below_drewN))⟩
    refine ret_val (x := ⟨_, _, _⟩) ?_
    unfold fitR; (repeat (first | (refine (if_pos ?_).trans ?_; (focus (first | assumption | omega | (simp [*]; done)))) | (refine (if_neg ?_).trans ?_; (focus (first | assumption | omega | (simp [*]; done)))))); try (first | rfl | (simp [*]; done))
def vmadeR (v : Val) (t : Int) : Val := if (!typeR t) = true then ⟨true, 0, ⟨#[]⟩⟩ else fitR v t
set_option maxRecDepth 100000 in
set_option maxHeartbeats 1600000 in
theorem rVMade (v : Val) (t : Int) (w : World) (hs : v.s.size ≤ 9223372036854775807) : Calls Try.prog 28 #[valV v, .int .i64 t] w fun e w' => e = .returned (valV (vmadeR v t)) ∧ Below w.heap.size w w' := by
  go_enter Try.func28, Try.ntmps28
  go_upto_region 1 with (fail)
  refine wp_letter ?_
  intro W hW
  have h0 : Box W w.heap.size [.bool v.nul, .int .i64 v.n, .string v.s] 25 := by subst hW; exact (box_new _ _ _ rfl).alloc _
  have h1 : Box W (w.heap.size + 1) [.bool false, .int .i64 0, .string ⟨#[]⟩] 25 := by subst hW; exact box_new _ _ _ (by simp)
  have hB : Below w.heap.size w W := by subst hW; exact (by repeat (first | exact below_refl _ | apply below_alloc | apply below_drew | apply below_drewN))
  clear hW
  have h0z := h0.lt; have h0c0 := h0.cell 0 _ rfl; have h0c1 := h0.cell 1 _ rfl; have h0c2 := h0.cell 2 _ rfl; have h1z := h1.lt; have h1c0 := h1.cell 0 _ rfl; have h1f0 := h1.frozen 0; have h1c1 := h1.cell 1 _ rfl; have h1f1 := h1.frozen 1; have h1c2 := h1.cell 2 _ rfl; have h1f2 := h1.frozen 2
  go_wp2_with (first
    | (go_at_call 51; refine (rType _ _).mono ?_; rintro e w1 ⟨rfl, hww⟩; rw [hww])
    | (go_at_call 52; refine (rFit v _ _ hs).mono ?_; rintro e w1 ⟨rfl, hb⟩; obtain ⟨hc, hf⟩ := bcell hb; have hz := hb.size; (try simp at hz); have hB := below_of (below_of hB (by repeat (first | exact below_refl _ | apply below_alloc | apply below_drew | apply below_drewN))) hb; have h1 := (h1.keep (by repeat (first | exact below_refl _ | apply below_alloc | apply below_drew | apply below_drewN))).keep hb; have h1z := h1.lt; have h1c0 := h1.cell 0 _ rfl; have h1f0 := h1.frozen 0; have h1c1 := h1.cell 1 _ rfl; have h1f1 := h1.frozen 1; have h1c2 := h1.cell 2 _ rfl; have h1f2 := h1.frozen 2))
  all_goals
    refine end_cell (t := 25) rfl rfl (((h1.set 0 (.bool _)).set 1 (.int .i64 _)).set 2 (.string _)) Try.underlying25 rfl rfl rfl ⟨?_, below_set (below_set (below_set hB (by first | omega | (simp; done) | (simp; omega)) _) (by first | omega | (simp; done) | (simp; omega)) _) (by first | omega | (simp; done) | (simp; omega)) _⟩
    refine ret_val (x := ⟨_, _, _⟩) ?_
    unfold vmadeR; (repeat (first | (refine (if_pos ?_).trans ?_; (focus (first | assumption | omega | (simp [*]; done)))) | (refine (if_neg ?_).trans ?_; (focus (first | assumption | omega | (simp [*]; done)))))); try (first | rfl | (simp [*]; done))
end Go.Proofs.Ythcphdgfdkgimaa
