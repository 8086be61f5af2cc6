/- SchemaRowsKeepFitting answers true whatever the input, and leaves its arguments as they were. Conditions: none. -/
import Derived.Test.YthcphdgfdkgimaaRows
import Derived.Test.YthcphdgfdkgimaaLawE
namespace Go.Proofs.Ythcphdgfdkgimaa
open Go.ChangeShapes Go.WideShapes Go.ChangeAt Go.RowKit
set_option linter.unusedVariables false
set_option maxRecDepth 100000 in
theorem law2_lifted (os : Os) (started : os.Started) (H : Type) (enc : TypeId × Value → H) :
    ReturnsInHanded {} Try.checked os 4 .any (Rows.schemaRowsKeepFittingSpec.pre6 enc Try.prog Try.f4 Rows.schemaRowsKeepFittingRow.domain false) (Rows.schemaRowsKeepFittingSpec.post enc Try.prog Try.f4 false true false false) := by
  refine returnsInHanded_of_change_sized (C := Try.checked) Try_own started (by kernel_rfl) Try.func4
    (ChangeSpec.witness6 (enc := enc) (C := Try.checked) false ⟨#[], #[.slice none 0 0, .slice none 0 0, .slice none 0 0], []⟩ 8 (by kernel_rfl) (by kernel_rfl) (by kernel_rfl) (by kernel_rfl)) ?_
  intro W base args ds gs before hval0 hW hcnd hsz0 _
  have hsz : (DataW.weightsEach Try.prog (Try.f4.params.toList ++ Rows.schemaRowsKeepFittingSpec.plain.varTypes Try.prog) (ds ++ gs)).all (· ≤ reachBytes) = true := hsz0
  have hval : ∀ (j : Nat) t v, Try.f4.params[j]? = some t → args[j]? = some v → Value.okWide Try.prog W .any base t v := hval0
  have hW' := hW
  obtain ⟨p, q, hA0, hV, rfl, hfz, hnd⟩ := hW
  have hA : DataW.TrodAll enc Try.prog W 0 (fun _ => true) true Try.f4.params.toList args.toList ds p := hA0
  rw [Try.params4] at hA hval hsz
  obtain ⟨v0, vs0, d0, ds0, p0, q0, hargs, rfl, rfl, h0, r0⟩ := trodAll_cons hA
  obtain ⟨v1, vs1, d1, ds1, p1, q1, rfl, rfl, rfl, h1, r1⟩ := trodAll_cons r0
  obtain ⟨v2, vs2, d2, ds2, p2, q2, rfl, rfl, rfl, h2, r2⟩ := trodAll_cons r1
  obtain ⟨rfl, rfl, rfl⟩ := trodAll_nil r2
  obtain rfl : args = #[v0, v1, v2] := by cases args; simp_all
  obtain ⟨rfl, rfl⟩ := trodVars_none hV
  have k0 := h0
  have lt0 : ∀ x ∈ p0, x.block < W.heap.size := by obtain ⟨m, hm⟩ := k0; exact DataW.trod_lt m _ _ _ hm
  have k1 := h1
  have lt1 : ∀ x ∈ p1, x.block < W.heap.size := by obtain ⟨m, hm⟩ := k1; exact DataW.trod_lt m _ _ _ hm
  have k2 := h2
  have lt2 : ∀ x ∈ p2, x.block < W.heap.size := by obtain ⟨m, hm⟩ := k2; exact DataW.trod_lt m _ _ _ hm
  obtain ⟨A0, c0, l0, rfl, hr0, ho0⟩ := arg_rd (n := 1) (en := Chg.enc) (Ok := Chg.ok) Chg.len (by omega) Try.underlying22 (by kernel_rfl) (by kernel_rfl) (by kernel_rfl) readG (hval 0 _ v0 rfl rfl) h0 hsz (j := 0) rfl rfl (of_decide_eq_true (by kernel_rfl))
  obtain ⟨A1, c1, raw, rfl, hr1, ho1⟩ := arg_rd (n := 1) (en := Val.enc) (Ok := Val.ok) Val.len (by omega) Try.underlying23 (by kernel_rfl) (by kernel_rfl) (by kernel_rfl) readV (hval 1 _ v1 rfl rfl) h1 hsz (j := 1) rfl rfl (of_decide_eq_true (by kernel_rfl))
  obtain ⟨A2, c2, more, rfl, hr2, ho2⟩ := arg_rd (n := 1) (en := Chg.enc) (Ok := Chg.ok) Chg.len (by omega) Try.underlying22 (by kernel_rfl) (by kernel_rfl) (by kernel_rfl) readG (hval 2 _ v2 rfl rfl) h2 hsz (j := 2) rfl rfl (of_decide_eq_true (by kernel_rfl))
  clear hA0 hval0 hsz0 hsz
  refine (law2_walk A0 c0 l0 A1 c1 raw A2 c2 more W hr0 ho0 hr1 ho1 hr2 ho2).mono fun e W' ⟨he, bel⟩ => ?_
  subst he
  exact ⟨_, rfl, _, _, _, [], _, [], hW', trodAll_mk1 (shut_bool Try.underlying4 _), (trodAll_cons_mk (Below.trod Try_laid (by kernel_rfl) (of_decide_eq_true (by kernel_rfl)) k0 bel lt0) (trodAll_cons_mk (Below.trod Try_laid (by kernel_rfl) (of_decide_eq_true (by kernel_rfl)) k1 bel lt1) (trodAll_cons_mk (Below.trod Try_laid (by kernel_rfl) (of_decide_eq_true (by kernel_rfl)) k2 bel lt2) trodAll_mk0))), rfl, bel.frame _, fun h => by cases h⟩
theorem law2_holds : Rows.SchemaRowsKeepFittingSaid :=
  OpenClaim.holds_of_wide 4 Try.f4 rfl rfl rfl rfl rfl rfl rfl ⟨rfl, rfl, rfl, rfl, rfl⟩ rfl rfl rfl rfl rfl (by kernel_rfl) Try.func4 (by kernel_rfl)
    (of_decide_eq_true (by kernel_rfl)) (by unfold Func.isWrapper; first | (rw [if_pos (by decide +kernel)]; kernel_rfl) | (rw [if_neg (by decide +kernel)]; exact ⟨rfl, rfl⟩))
    (fun os started H enc _ => law2_lifted os started H enc)
#print axioms law2_holds
end Go.Proofs.Ythcphdgfdkgimaa
