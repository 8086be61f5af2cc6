/- Package schema, part G: a row that is written in place; clear. -/
import Derived.Test.YthcphdgfdkgimaaSchF
import Derived.Laws.IdiomCopy
set_option linter.unusedSimpArgs false
set_option linter.unusedVariables false
namespace Go.Proofs.Ythcphdgfdkgimaa
open Go.RowKit
theorem Box.setCells {b : Nat} {T : TypeId} : ∀ (Z : List Value) (o : Nat) (w : World) (vs : List Value), Box w b vs T → ∃ vs', Box (w.setCells b o Z) b vs' T ∧ vs'.length = vs.length ∧ vs'.take o = vs.take o
  | [], o, w, vs, h => ⟨vs, h, rfl, rfl⟩
  | v :: r, o, w, vs, h => by
    obtain ⟨vs', h1, h2, h3⟩ := Box.setCells r (o + 1) _ _ (h.set o v)
    refine ⟨vs', h1, by rw [h2]; simp, ?_⟩
    have h4 := congrArg (List.take o) h3
    rw [List.take_take, List.take_take, Nat.min_eq_left (by omega)] at h4
    rw [h4]
    exact List.take_set_of_le (Nat.le_refl o)
theorem below_setCells {B b : Nat} {w0 : World} (hb : B ≤ b) : ∀ (Z : List Value) (o : Nat) (w : World), Below B w0 w → Below B w0 (w.setCells b o Z)
  | [], _, _, h => h
  | v :: r, o, w, h => below_setCells hb r (o + 1) _ (h.setCell hb v)
theorem run_clear_box {P : Program} {w : World} (t e ty : TypeId) {z : Value} (ht : P.underlying t = some (.slice e)) (hv : ∀ w, (zeroValue e).run P w = .ok z w) (h1 : ∀ u ∈ z.cells.toList, u.oneCell' = true) {b : Nat} {vs : List Value} {T : TypeId} (hb : Box w b vs T) (o n c : Nat) (hz : 0 < z.cells.size) (hle : o + n * z.cells.size ≤ vs.length) :
    ∃ Z, (Builtin.clear_ #[t] ty #[.slice (some ⟨b, o, none⟩) n c]).run P w = .ok (.tuple #[]) (w.setCells b o Z) := by
  cases n with
  | zero => exact ⟨[], by simp [Builtin.clear_, run_underlying ht]; rfl⟩
  | succ n =>
    refine ⟨(Builtin.zeroCells z.cells (n + 1)).toList, ?_⟩
    have hlen : (Builtin.zeroCells z.cells (n + 1)).toList.length = (n + 1) * z.cells.size := by simp [Builtin.zeroCells]
    have hst := run_storeCells_cells (P := P) b o (Builtin.zeroCells z.cells (n + 1)).toList 0 w
      (fun j hj => by
        have hj2 : o + 0 + j < vs.length := by omega
        rw [hb.cell (o + 0 + j) _ (List.getElem?_eq_getElem hj2)]; rfl)
      (fun j hj => hb.frozen _)
      (by
        intro v hv'
        simp only [Builtin.zeroCells, Array.toList_map, List.mem_map, Array.mem_toList_iff, Array.mem_range] at hv'
        obtain ⟨i, _, rfl⟩ := hv'
        have hm : i % z.cells.size < z.cells.size := Nat.mod_lt _ hz
        rw [getElem!_pos z.cells _ hm]
        exact h1 _ (by simp))
    simp only [Nat.add_zero] at hst
    simp [Builtin.clear_, run_underlying ht, hv, hst]
theorem zeroF (w : World) : (zeroValue 53).run Try.prog w = .ok (.agg #[.int .i64 0, .string ⟨#[]⟩, .int .i64 0, .int .i64 0]) w := by
  obtain ⟨i0, hi, hzz⟩ := Option.map_eq_some_iff.1 infoF
  simp only [Prod.mk.injEq] at hzz
  simp [zeroValue, typeInfo, hi, hzz.1]
/-- The elements' cells, one written. -/
theorem flat_set {x : Fld} : ∀ (m : List Fld) (i : Nat), i < m.length → ∀ tail : List Value,
    (((((m.flatMap Fld.enc ++ tail).set (i * 4) (.int .i64 x.id)).set (i * 4 + 1) (.string x.name)).set (i * 4 + 2) (.int .i64 x.ty)).set (i * 4 + 3) (.int .i64 x.par)) = (m.set i x).flatMap Fld.enc ++ tail
  | [], i, h, _ => by simp at h
  | y :: r, 0, _, tail => by simp [Fld.enc]
  | y :: r, i + 1, h, tail => by
    have ih := flat_set (x := x) r i (by simpa using h) tail
    have e : (i + 1) * 4 = i * 4 + 4 := by omega
    rw [List.set_cons_succ, List.flatMap_cons, List.flatMap_cons, e]
    simp only [Fld.enc, List.cons_append, List.nil_append, List.append_assoc, Nat.add_right_comm _ 4, List.set_cons_succ]
    rw [← ih]
end Go.Proofs.Ythcphdgfdkgimaa
