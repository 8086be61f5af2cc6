/- Arguments of the laws, opened: changes, values, cells. -/
import Derived.Test.YthcphdgfdkgimaaRowA
import Derived.Test.YthcphdgfdkgimaaLawC
set_option linter.unusedSimpArgs false
set_option linter.unusedVariables false
namespace Go.Proofs.Ythcphdgfdkgimaa
open Go.RowKit
open Go.ChangeShapes Go.WideShapes Go.Deep
section
variable {H : Type} {enc : TypeId × Value → H} {w : World} {base : Nat} {spare : Nat → Bool} {held : Bool}
theorem lvG : leaves Try.prog 1 43 = [3, 3, 3, 9, 9, 3, 3, 9] := by kernel_rfl
theorem lvV : leaves Try.prog 1 25 = [4, 2, 9] := by kernel_rfl
theorem lvC : leaves Try.prog 2 27 = [3, 4, 2, 9] := by kernel_rfl
theorem wf64 {n : Int} (h : (Lit.int .i64 n).wf = true) : -9223372036854775808 ≤ n ∧ n ≤ 9223372036854775807 := by
  simp only [Lit.wf, IntKind.min, IntKind.max, IntKind.signed, IntKind.bits, Bool.and_eq_true, decide_eq_true_eq, if_true] at h
  omega
theorem readG (cs : List Value) (hl : cs.length = 8) (h : ∀ (i : Nat) (lt : TypeId) (v : Value), (leaves Try.prog 1 43)[i]? = some lt → cs[i]? = some v → LeafAt enc Try.prog w base spare held lt v) : ∃ y : Chg, y.enc = cs ∧ y.ok := by
  rw [lvG] at h
  obtain ⟨a, b, c, d, e, f, g, i, rfl⟩ := list8 hl
  obtain ⟨n0, rfl, _⟩ := leaf_int Try.underlying3 (h 0 _ _ rfl rfl)
  obtain ⟨n1, rfl, _⟩ := leaf_int Try.underlying3 (h 1 _ _ rfl rfl)
  obtain ⟨n2, rfl, _⟩ := leaf_int Try.underlying3 (h 2 _ _ rfl rfl)
  obtain ⟨s3, rfl, z3⟩ := leaf_str Try.underlying9 (h 3 _ _ rfl rfl)
  obtain ⟨s4, rfl, z4⟩ := leaf_str Try.underlying9 (h 4 _ _ rfl rfl)
  obtain ⟨n5, rfl, _⟩ := leaf_int Try.underlying3 (h 5 _ _ rfl rfl)
  obtain ⟨n6, rfl, _⟩ := leaf_int Try.underlying3 (h 6 _ _ rfl rfl)
  obtain ⟨s7, rfl, z7⟩ := leaf_str Try.underlying9 (h 7 _ _ rfl rfl)
  exact ⟨⟨n0, n1, n2, s3, s4, n5, n6, s7⟩, rfl, z3, z4, z7⟩
theorem readV (cs : List Value) (hl : cs.length = 3) (h : ∀ (i : Nat) (lt : TypeId) (v : Value), (leaves Try.prog 1 25)[i]? = some lt → cs[i]? = some v → LeafAt enc Try.prog w base spare held lt v) : ∃ y : Val, y.enc = cs ∧ y.ok := by
  rw [lvV] at h
  obtain ⟨a, b, c, rfl⟩ := list3 hl
  obtain ⟨b0, rfl⟩ := leaf_bool Try.underlying4 (h 0 _ _ rfl rfl)
  obtain ⟨n1, rfl, z1⟩ := leaf_int Try.underlying2 (h 1 _ _ rfl rfl)
  obtain ⟨s2, rfl, z2⟩ := leaf_str Try.underlying9 (h 2 _ _ rfl rfl)
  obtain ⟨z3, z4⟩ := wf64 z1
  exact ⟨⟨b0, n1, s2⟩, rfl, z2, z3, z4⟩
theorem readC (cs : List Value) (hl : cs.length = 4) (h : ∀ (i : Nat) (lt : TypeId) (v : Value), (leaves Try.prog 2 27)[i]? = some lt → cs[i]? = some v → LeafAt enc Try.prog w base spare held lt v) : ∃ y : Cel, y.enc = cs ∧ y.v.ok := by
  rw [lvC] at h
  obtain ⟨a, b, c, d, rfl⟩ := list4 hl
  obtain ⟨n0, rfl, _⟩ := leaf_int Try.underlying3 (h 0 _ _ rfl rfl)
  obtain ⟨b1, rfl⟩ := leaf_bool Try.underlying4 (h 1 _ _ rfl rfl)
  obtain ⟨n2, rfl, z1⟩ := leaf_int Try.underlying2 (h 2 _ _ rfl rfl)
  obtain ⟨s3, rfl, z2⟩ := leaf_str Try.underlying9 (h 3 _ _ rfl rfl)
  obtain ⟨z3, z4⟩ := wf64 z1
  exact ⟨⟨n0, ⟨b1, n2, s3⟩⟩, rfl, z2, z3, z4⟩
end
theorem Try_own : ownKnob Try.prog.godebug = none := by kernel_rfl
theorem Try_laid : laidOutB Try.prog = true := by kernel_rfl
theorem len_of {H : Type} {P : Program} {ts : List TypeId} {ds : List (DataW H)} (h : (DataW.weightsEach P ts ds).all (· ≤ reachBytes) = true) {j n : Nat} {t e : TypeId} {d : DataW H} (ht : ts[j]? = some t) (hd : ds[j]? = some d) (hu : P.underlying t = some (.slice e)) (hb : 1 ≤ P.bytesOf e)
    (hx : (d = .nil ∧ n = 0) ∨ ∃ es sp, d = .slice es sp ∧ es.length = n) : n ≤ 140737488355328 := by
  rcases hx with ⟨_, rfl⟩ | ⟨es, sp, rfl, rfl⟩
  · omega
  · have h1 := sized_slice h ht hd hu
    have h2 := reachBytes_lt
    have h3 : es.length ≤ (es.length + sp.length) * P.bytesOf e := Nat.le_trans (Nat.le_add_right _ _) (Nat.le_mul_of_pos_right _ hb)
    omega
/-- A slice argument of structs. -/
theorem arg_rd {H : Type} {enc : TypeId × Value → H} {P : Program} {W : World} {base sz n j : Nat} {α : Type} {en : α → List Value} {Ok : α → Prop} {t e : TypeId} {v : Value} {d : DataW H} {p : List MemPlace} {ts : List TypeId} {ds : List (DataW H)} (hs : ∀ y, (en y).length = sz) (h0 : 0 < sz) (ht : P.underlying t = some (.slice e)) (hsz : P.cellsOf e = sz) (hfit : fitsL P n e = true) (hll : (leaves P n e).length = P.cellsOf e)
    (hread : ∀ cs : List Value, cs.length = sz → (∀ (i : Nat) (lt : TypeId) (v : Value), (leaves P n e)[i]? = some lt → cs[i]? = some v → LeafAt enc P W 0 (fun _ => true) true lt v) → ∃ y, en y = cs ∧ Ok y) (hv : Value.okWide P W .any base t v) (h : DataW.Trod enc P W 0 (fun _ => true) true t v d p)
    (hz : (DataW.weightsEach P ts ds).all (· ≤ reachBytes) = true) (hj : ts[j]? = some t) (hd : ds[j]? = some d) (hb : 1 ≤ P.bytesOf e) : ∃ A c l, v = .slice A l.length c ∧ Rd en sz W A l ∧ ∀ y ∈ l, Ok y := by
  obtain ⟨a, len, cap, rfl⟩ := okWide_slice ht hv
  obtain ⟨fuel, hf⟩ := h
  obtain ⟨A, l, c, hcs, hr, ho, hx⟩ := open_rd (n := n) hs h0 ht hsz hfit hll hread hf
  simp [Value.cells] at hcs
  obtain ⟨rfl, rfl, rfl⟩ := hcs
  refine ⟨_, _, l, rfl, ⟨len_of hz hj hd ht hb ?_, hr⟩, ho⟩
  rcases hx with ⟨h1, rfl⟩ | h1
  · exact .inl ⟨h1, rfl⟩
  · exact .inr h1
end Go.Proofs.Ythcphdgfdkgimaa
