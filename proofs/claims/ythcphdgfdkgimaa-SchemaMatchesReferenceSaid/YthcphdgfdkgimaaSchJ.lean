/- Package schema, part J: plain laws between the two packages: ancestors and depth, taken. -/
import Derived.Test.YthcphdgfdkgimaaSchI
set_option linter.unusedSimpArgs false
set_option linter.unusedVariables false
namespace Go.Proofs.Ythcphdgfdkgimaa
open Go.RowKit
theorem anc_depth (l : List Fld) : ∀ (k : Nat) (id : Int), 0 < k → ((ancGo l k id).2 = 0 ∧ depthR l k id = 9 - (k : Int) + (ancGo l k id).1.length) ∨ ((ancGo l k id).2 ≠ 0 ∧ depthR l k id = 9)
  | 0, _, h => by omega
  | k + 1, id, _ => by
    by_cases h0 : id = 0
    · subst h0
      exact .inl ⟨by simp [ancGo], by simp [ancGo, depthR]⟩
    · cases hh : hasF l id
      · exact .inr ⟨by simp [ancGo, h0, hh], by simp [depthR, h0, hh]⟩
      · by_cases hk : k = 0
        · subst hk
          exact .inr ⟨by simp [ancGo, h0, hh], by simp [depthR, h0, hh]⟩
        · have e1 : ancGo l (k + 1) id = (id :: (ancGo l k (getF l id).par).1, (ancGo l k (getF l id).par).2) := ancGo_step l (by omega) h0 hh
          have e2 : depthR l (k + 1) id = depthR l k (getF l id).par := by simp [depthR, h0, hh]
          rw [e1, e2]
          rcases anc_depth l k (getF l id).par (by omega) with ⟨h1, h2⟩ | ⟨h1, h2⟩
          · exact .inl ⟨h1, by rw [h2, List.length_cons]; push_cast; omega⟩
          · exact .inr ⟨h1, h2⟩
/-- too deep, in the words of either package -/
theorem anc_deep (l : List Fld) (id : Int) : (!((ancR l id).2 == 0) || decide (8 ≤ ((ancR l id).1.length : Int))) = decide (depthR l 9 id ≥ 8) := by
  rcases anc_depth l 9 id (by omega) with ⟨h1, h2⟩ | ⟨h1, h2⟩
  · unfold ancR; rw [h1, h2, Bool.eq_iff_iff]; simp
  · have h3 : ((ancR l id).2 == 0) = false := by simpa [ancR] using h1
    rw [h3, h2]; simp
theorem anc_ok (l : List Fld) (id : Int) : ((ancR l id).2 == 0) = true → depthR l 9 id = (ancR l id).1.length := by
  intro h
  rcases anc_depth l 9 id (by omega) with ⟨h1, h2⟩ | ⟨h1, h2⟩
  · unfold ancR; rw [h2]; simp
  · exact absurd (by simpa [ancR] using h) h1
/-- A schema's numbers: all different, from 1, below the next one. -/
def Nums (l : List Fld) (nx : Int) : Prop := (l.map (·.id)).Nodup ∧ ∀ f ∈ l, 1 ≤ f.id ∧ f.id < nx
theorem taken_none {l : List Fld} {nx : Int} (h : Nums l nx) (nm : ByteArray) (par : Int) : (!nameOk nm || l.any (takenQ nm par [])) = takenR l nm par 0 0 := by
  unfold takenR
  rw [Bool.or_comm]
  congr 1
  rw [Bool.eq_iff_iff, List.any_eq_true, List.any_eq_true]
  constructor
  · rintro ⟨f, hf, hp⟩
    exact ⟨f, hf, by have := (h.2 f hf).1; simp [takenQ, takenP] at hp ⊢; exact ⟨hp.1, hp.2, by omega⟩⟩
  · rintro ⟨f, hf, hp⟩
    exact ⟨f, hf, by simp [takenQ, takenP] at hp ⊢; exact ⟨hp.1, hp.2.1⟩⟩
end Go.Proofs.Ythcphdgfdkgimaa
