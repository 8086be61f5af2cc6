/- Package value: isType, limits, Valid. -/
import Derived.Test.YthcphdgfdkgimaaSchU
import Derived.Laws.StructEq
set_option linter.unusedSimpArgs false
set_option linter.unusedVariables false
namespace Go.Proofs.Ythcphdgfdkgimaa
open Go.RowKit
theorem sType (t : Int) (w : World) : Calls Try.prog 53 #[.int .i64 t] w fun e w' => e = .returned (.bool (typeR t)) ∧ w' = w := by
  go_enter Try.func53, Try.ntmps53
  go_wp2
  all_goals exact end_bool rfl rfl rfl (by rw [Bool.eq_iff_iff]; simp [typeR]; omega) ⟨rfl, rfl⟩
def loR (t : Int) : Int := if (t == 1) = true then 0 else if (t == 2) = true then -2147483648 else if (t == 5) = true then -1000000 else -9223372036854775808
def hiR (t : Int) : Int := if (t == 1) = true then 1 else if (t == 2) = true then 2147483647 else if (t == 5) = true then 1000000 else 9223372036854775807
theorem sLimits (t : Int) (w : World) : Calls Try.prog 54 #[.int .i64 t] w fun e w' => e = .returned (.tuple #[.int .i64 (loR t), .int .i64 (hiR t)]) ∧ w' = w := by
  go_enter Try.func54, Try.ntmps54
  go_wp2
  all_goals exact end_tmp2 rfl rfl rfl rfl ⟨by congr 1; congr 1; symm; unfold loR hiR; simp [*], rfl⟩
set_option maxRecDepth 100000 in
set_option maxHeartbeats 1600000 in
theorem sValid (v : Val) (t : Int) (w : World) (hs : v.s.size ≤ 9223372036854775807) (hn : -9223372036854775808 ≤ v.n ∧ v.n ≤ 9223372036854775807) : Calls Try.prog 29 #[valV v, .int .i64 t] w fun e w' => e = .returned (.bool (validR v t)) ∧ Below w.heap.size w w' := by
  cases ht : typeR t
  · go_enter Try.func29, Try.ntmps29
    go_wp2_with (go_at_call 53; refine (sType _ _).mono ?_; rintro e w1 ⟨rfl, hww⟩; rw [hww])
    exact end_bool rfl rfl rfl (by symm; unfold validR; rw [ht]; rfl) ⟨rfl, (by repeat (first | exact below_refl _ | apply below_alloc | apply below_drew | apply below_drewN))⟩
  have h5 : t = 1 ∨ t = 2 ∨ t = 3 ∨ t = 4 ∨ t = 5 := by unfold typeR at ht; simp at ht; omega
  clear ht
  obtain ⟨hn1, hn2⟩ := hn
  rcases h5 with rfl | rfl | rfl | rfl | rfl
  all_goals
    go_enter Try.func29, Try.ntmps29
    go_wp2_with (first
      | (go_at_call 53; refine (sType _ _).mono ?_; rintro e w1 ⟨rfl, hww⟩; rw [hww])
      | (go_at_call 54; refine (sLimits _ _).mono ?_; rintro e w1 ⟨rfl, hww⟩; rw [hww]; simp only [loR, hiR]; simp only [Int.reduceBEq, ite_true, ite_false, reduceIte, Bool.false_eq_true]))
    all_goals exact end_bool rfl rfl rfl (by symm; unfold validR emR; (repeat (first | (refine (if_pos ?_).trans ?_; (focus (first | assumption | omega | (simp [*]; done)))) | (refine (if_neg ?_).trans ?_; (focus (first | assumption | omega | (simp [*]; done)))))); try (first | rfl | (simp [*]; done))) ⟨rfl, (by repeat (first | exact below_refl _ | apply below_alloc | apply below_drew | apply below_drewN))⟩
end Go.Proofs.Ythcphdgfdkgimaa
