/- Package schema, part M: one cell of a row of one's own is written; widen. -/
import Derived.Test.YthcphdgfdkgimaaSchL
set_option linter.unusedSimpArgs false
set_option linter.unusedVariables false
namespace Go.Proofs.Ythcphdgfdkgimaa
open Go.RowKit
theorem flat_one {x : Fld} {u : Value} {j : Nat} (hj : j < 4) : ∀ (m : List Fld) (i : Nat) (h : i < m.length), Fld.enc x = (Fld.enc m[i]).set j u → ∀ tail : List Value, (m.flatMap Fld.enc ++ tail).set (i * 4 + j) u = (m.set i x).flatMap Fld.enc ++ tail
  | [], i, h, _, _ => by simp at h
  | y :: r, 0, h, hx, tail => by
    simp only [List.getElem_cons_zero] at hx
    rw [List.set_cons_zero, List.flatMap_cons, List.flatMap_cons, List.append_assoc, List.append_assoc, Nat.zero_mul, Nat.zero_add, hx, List.set_append_left _ _ (by rw [Fld.len]; exact hj)]
  | y :: r, i + 1, h, hx, tail => by
    have ih := flat_one hj r i (by simpa using h) (by simpa using hx) tail
    rw [List.set_cons_succ, List.flatMap_cons, List.flatMap_cons, List.append_assoc, List.append_assoc, ← ih, List.set_append_right _ _ (by rw [Fld.len]; omega), Fld.len, show (i + 1) * 4 + j - 4 = i * 4 + j by omega]
theorem own_open {w : World} {base : Nat} {A : Option Addr} {c : Nat} {l : List Fld} (HO : Own Fld.enc 4 w base 53 (.slice A l.length c) l) (hl : 0 < l.length) :
    ∃ g tail, A = some ⟨g, 0, none⟩ ∧ base ≤ g ∧ Box w g (l.flatMap Fld.enc ++ tail) 53 ∧ ∀ w' l', l'.length = l.length → Box w' g (l'.flatMap Fld.enc ++ tail) 53 → Own Fld.enc 4 w' base 53 (.slice (some ⟨g, 0, none⟩) l.length c) l' := by
  rcases HO.2 with ⟨he, hn⟩ | ⟨g, cap, cur, he, hgb, hh, hnc, hcm, hcs, hpre⟩
  · omega
  · cases he
    have htl : (cur.toList.drop (l.length * 4)).length + l.length * 4 = c * 4 := by rw [List.length_drop, Array.length_toList, hcs]; omega
    refine ⟨g, cur.toList.drop (l.length * 4), rfl, hgb, ?_, ?_⟩
    · unfold Box; rw [hh, ← hpre, List.take_append_drop]
    · intro w' l' hl' hb
      refine ⟨flat_len l', .inr ⟨g, c, _, by rw [hl'], hgb, hb, by omega, hcm, ?_, ?_⟩⟩
      · rw [List.size_toArray, List.length_append, flat_len]; omega
      · rw [List.toList_toArray, flat_take l' l'.length _ (Nat.le_refl _), List.take_length]
/-- The first field with a number is written: all fields with it, the numbers being different. -/
theorem set_with {l : List Fld} {nx : Int} (hN : Nums l nx) {j : Nat} (hj : j < l.length) (x : Fld) (hx : x.id = l[j].id) : l.set j x = withR l x := by
  apply List.ext_getElem
  · simp [withR]
  · intro i h1 h2
    have hi : i < l.length := by simpa using h1
    simp only [withR, List.getElem_map]
    rw [List.getElem_set]
    by_cases hij : j = i
    · subst hij; simp [hx]
    · rw [if_neg hij, if_neg]
      intro he
      have he : l[i].id = l[j].id := by rw [← hx]; simpa using he
      have hnd := List.pairwise_iff_getElem.1 hN.1
      rcases Nat.lt_or_gt_of_ne hij with h | h
      · exact hnd j i (by simpa using hj) (by simpa using hi) h (by simpa using he.symm)
      · exact hnd i j (by simpa using hi) (by simpa using hj) h (by simpa using he)
end Go.Proofs.Ythcphdgfdkgimaa
