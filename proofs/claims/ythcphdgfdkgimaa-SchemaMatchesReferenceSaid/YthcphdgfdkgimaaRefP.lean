/- The references of fenlandref05: Type, Valid, Fit, Made. -/
import Derived.Test.YthcphdgfdkgimaaRefO
set_option linter.unusedSimpArgs false
set_option linter.unusedVariables false
namespace Go.Proofs.Ythcphdgfdkgimaa
open Go.RowKit
def typeR (t : Int) : Bool := decide (1 ≤ t) && decide (t ≤ 5)
def emR (s : ByteArray) (lo hi n : Int) : Bool := if s.toList = [] then (if lo ≤ n then decide (n ≤ hi) else false) else false
def validR (v : Val) (t : Int) : Bool :=
  if (!typeR t) = true then false else if v.nul = true then (if v.n = 0 then v.s.toList.isEmpty else false) else
    if (t == 1) = true then emR v.s 0 1 v.n else if (t == 2) = true then emR v.s (-2147483648) 2147483647 v.n else if (t == 3) = true then v.s.toList.isEmpty else
    if (t == 5) = true then emR v.s (-1000000) 1000000 v.n else if v.n = 0 then decide ((v.s.size : Int) ≤ 200) else false
theorem rType (t : Int) (w : World) : Calls Try.prog 51 #[.int .i64 t] w fun e w' => e = .returned (.bool (typeR t)) ∧ w' = w := by
  go_enter Try.func51, Try.ntmps51
  go_wp2
  all_goals exact end_bool rfl rfl rfl (by rw [Bool.eq_iff_iff]; simp [typeR]; omega) ⟨rfl, rfl⟩
abbrev valV (v : Val) : Value := .agg #[.bool v.nul, .int .i64 v.n, .string v.s]
set_option maxRecDepth 100000 in
set_option maxHeartbeats 1600000 in
theorem rValid (v : Val) (t : Int) (w : World) (hs : v.s.size ≤ 9223372036854775807) : Calls Try.prog 30 #[valV v, .int .i64 t] w fun e w' => e = .returned (.bool (validR v t)) ∧ Below w.heap.size w w' := by
  go_enter Try.func30, Try.ntmps30
  go_wp2_with (go_at_call 51; refine (rType _ _).mono ?_; rintro e w1 ⟨rfl, hww⟩; rw [hww])
  all_goals exact end_bool rfl rfl rfl (by symm; unfold validR emR; (repeat (first | (refine (if_pos ?_).trans ?_; (focus (first | assumption | omega | (simp [*]; done)))) | (refine (if_neg ?_).trans ?_; (focus (first | assumption | omega | (simp [*]; done)))))); try (first | rfl | (simp [*]; done))) ⟨rfl, (by repeat (first | exact below_refl _ | apply below_alloc | apply below_drew | apply below_drewN))⟩
end Go.Proofs.Ythcphdgfdkgimaa
