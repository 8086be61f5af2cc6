/- Package schema, part P: slices.Clone. -/
import Derived.Test.YthcphdgfdkgimaaSchO
set_option linter.unusedSimpArgs false
set_option linter.unusedVariables false
namespace Go.Proofs.Ythcphdgfdkgimaa
open Go.RowKit
set_option maxRecDepth 100000 in
set_option maxHeartbeats 800000 in
theorem sClone (A : Option Addr) (c : Nat) (l : List Fld) (w : World) (hr : RdF w A l) (hl : l.length ≤ 1000) :
    Calls Try.prog 42 #[.slice A l.length c] w fun e w' => ∃ v', e = .returned v' ∧ Own Fld.enc 4 w' w.heap.size 53 v' l ∧ Below w.heap.size w w' := by
  have hnil := fun (w : World) (a : Option Addr) (n c n' c' : Nat) => Lib.run_eql_slice_nil (P := Try.prog) w 29 53 a n c n' c' Try.underlying29
  rcases A with _ | ad
  · have h0 : l = [] := by
      rcases hr.2 with h | ⟨b, o, h, _⟩
      · exact h
      · cases h
    subst h0
    go_enter Try.func42, Try.ntmps42
    go_wp2
    all_goals exact end_tmp rfl rfl rfl ⟨_, rfl, Own.none _ _ _ _ _, (by repeat (first | exact below_refl _ | apply below_alloc | apply below_drew | apply below_drewN))⟩
  · go_enter Try.func42, Try.ntmps42
    go_wp2_with (at_builtin; refine wpl_append_rd (l0 := []) (l := l) (enc := Fld.enc) Fld.len (fun _ => rfl) rfl _ _ 29 53 _ 40 rfl Try.underlying29 infoF rfl (by omega) (by omega) (by rfl) (by rfl) (Own.lit Fld.enc 4 w (base := w.heap.size) 53 (g := w.heap.size) (Nat.le_refl _) rfl) (hr.keep (by repeat (first | exact below_refl _ | apply below_alloc | apply below_drew | apply below_drewN))) (by first | omega | (simp; done) | (simp; omega)) (by first | omega | (simp; done) | (simp; omega)) ?_; intro A1 c1 w1 HO1 hg1)
    exact end_tmp rfl rfl rfl ⟨_, rfl, by simpa using HO1, (by exact (by repeat (first | exact below_refl _ | apply below_alloc | apply below_drew | apply below_drewN)) : Below w.heap.size w _).grown hg1 (by first | omega | (simp; done) | (simp; omega)) (by simp [Value.ownBlock])⟩
end Go.Proofs.Ythcphdgfdkgimaa
