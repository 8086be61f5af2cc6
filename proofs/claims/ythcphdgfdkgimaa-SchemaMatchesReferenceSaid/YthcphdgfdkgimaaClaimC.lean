/- SchemaMatchesReference answers true whatever the input, and leaves its arguments as they were. Conditions: none. -/
import Derived.Test.YthcphdgfdkgimaaRows
import Derived.Test.YthcphdgfdkgimaaLawF
namespace Go.Proofs.Ythcphdgfdkgimaa
open Go.ChangeShapes Go.WideShapes Go.ChangeAt Go.RowKit
set_option linter.unusedVariables false
set_option maxRecDepth 100000 in
theorem law3_lifted (os : Os) (started : os.Started) (H : Type) (enc : TypeId × Value → H) :
    ReturnsInHanded {} Try.checked os 5 .any (Rows.schemaMatchesReferenceSpec.pre6 enc Try.prog Try.f5 Rows.schemaMatchesReferenceRow.domain false) (Rows.schemaMatchesReferenceSpec.post enc Try.prog Try.f5 false true false false) := by
  refine returnsInHanded_of_change_sized (C := Try.checked) Try_own started (by kernel_rfl) Try.func5
    (ChangeSpec.witness6 (enc := enc) (C := Try.checked) false ⟨#[], #[.slice none 0 0, .agg #[.int .i64 0, .int .i64 0, .int .i64 0, .string ByteArray.empty, .string ByteArray.empty, .int .i64 0, .int .i64 0, .string ByteArray.empty], .int .i8 0], []⟩ 8 (by kernel_rfl) (by kernel_rfl) (by kernel_rfl) (by kernel_rfl)) ?_
  intro W base args ds gs before hval0 hW hcnd hsz0 _
  have hsz : (DataW.weightsEach Try.prog (Try.f5.params.toList ++ Rows.schemaMatchesReferenceSpec.plain.varTypes Try.prog) (ds ++ gs)).all (· ≤ reachBytes) = true := hsz0
  have hval : ∀ (j : Nat) t v, Try.f5.params[j]? = some t → args[j]? = some v → Value.okWide Try.prog W .any base t v := hval0
  have hW' := hW
  obtain ⟨p, q, hA0, hV, rfl, hfz, hnd⟩ := hW
  have hA : DataW.TrodAll enc Try.prog W 0 (fun _ => true) true Try.f5.params.toList args.toList ds p := hA0
  rw [Try.params5] at hA hval hsz
  obtain ⟨v0, vs0, d0, ds0, p0, q0, hargs, rfl, rfl, h0, r0⟩ := trodAll_cons hA
  obtain ⟨v1, vs1, d1, ds1, p1, q1, rfl, rfl, rfl, h1, r1⟩ := trodAll_cons r0
  obtain ⟨v2, vs2, d2, ds2, p2, q2, rfl, rfl, rfl, h2, r2⟩ := trodAll_cons r1
  obtain ⟨rfl, rfl, rfl⟩ := trodAll_nil r2
  obtain rfl : args = #[v0, v1, v2] := by cases args; simp_all
  obtain ⟨rfl, rfl⟩ := trodVars_none hV
  have k0 := h0
  have lt0 : ∀ x ∈ p0, x.block < W.heap.size := by obtain ⟨m, hm⟩ := k0; exact DataW.trod_lt m _ _ _ hm
  have k1 := h1
  have lt1 : ∀ x ∈ p1, x.block < W.heap.size := by obtain ⟨m, hm⟩ := k1; exact DataW.trod_lt m _ _ _ hm
  obtain ⟨A0, c0, l0, rfl, hr0, ho0⟩ := arg_rd (n := 1) (en := Chg.enc) (Ok := Chg.ok) Chg.len (by omega) Try.underlying22 (by kernel_rfl) (by kernel_rfl) (by kernel_rfl) readG (hval 0 _ v0 rfl rfl) h0 hsz (j := 0) rfl rfl (of_decide_eq_true (by kernel_rfl))
  obtain ⟨cs, rfl, hcs⟩ := okWide_struct Try.underlying43 (hval 1 _ v1 rfl rfl)
  obtain ⟨fuel, hf⟩ := h1
  obtain ⟨c, hc, hok⟩ := readG cs.toList (by rw [Array.length_toList, hcs]; kernel_rfl) (fun i lt v a b => trod_leaf 1 _ fuel _ _ (by kernel_rfl) hf (by show cs.toList.length = _; rw [Array.length_toList, hcs]) (by kernel_rfl) i lt v a b)
  obtain rfl : cs = #[.int .i64 c.kind, .int .i64 c.id, .int .i64 c.wit, .string c.name, .string c.other, .int .i64 c.ty, .int .i64 c.par, .string c.sep] := by cases cs; simp only at hc; rw [← hc]; rfl
  obtain ⟨id, rfl, rfl, rfl, wid⟩ := open_int Try.underlying48 (hval 2 _ v2 rfl rfl) h2
  have hid : -128 ≤ id ∧ id ≤ 127 := by
    simp only [Lit.wf, IntKind.min, IntKind.max, IntKind.signed, IntKind.bits, Bool.and_eq_true, decide_eq_true_eq, if_true] at wid
    omega
  clear hA0 hval0 hsz0 hsz
  refine (law3_walk A0 c0 l0 c id W hr0 ho0 hok hid).mono fun e W' ⟨he, bel⟩ => ?_
  subst he
  exact ⟨_, rfl, _, _, _, [], _, [], hW', trodAll_mk1 (shut_bool Try.underlying4 _), (trodAll_cons_mk (Below.trod Try_laid (by kernel_rfl) (of_decide_eq_true (by kernel_rfl)) k0 bel lt0) (trodAll_cons_mk (Below.trod Try_laid (by kernel_rfl) (of_decide_eq_true (by kernel_rfl)) k1 bel lt1) (trodAll_cons_mk (shut_int Try.underlying48 wid) trodAll_mk0))), rfl, bel.frame _, fun h => by cases h⟩
theorem law3_holds : Rows.SchemaMatchesReferenceSaid :=
  OpenClaim.holds_of_wide 5 Try.f5 rfl rfl rfl rfl rfl rfl rfl ⟨rfl, rfl, rfl, rfl, rfl⟩ rfl rfl rfl rfl rfl (by kernel_rfl) Try.func5 (by kernel_rfl)
    (of_decide_eq_true (by kernel_rfl)) (by unfold Func.isWrapper; first | (rw [if_pos (by decide +kernel)]; kernel_rfl) | (rw [if_neg (by decide +kernel)]; exact ⟨rfl, rfl⟩))
    (fun os started H enc _ => law3_lifted os started H enc)
#print axioms law3_holds
end Go.Proofs.Ythcphdgfdkgimaa
