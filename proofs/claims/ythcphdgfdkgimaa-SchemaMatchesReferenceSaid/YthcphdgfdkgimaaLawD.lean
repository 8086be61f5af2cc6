/- Plain: Made's changes are possible; rows keep fitting; the walk of SchemaRowsKeepFitting. -/
import Derived.Test.YthcphdgfdkgimaaRowB
set_option linter.unusedSimpArgs false
set_option linter.unusedVariables false
namespace Go.Proofs.Ythcphdgfdkgimaa
open Go.RowKit
theorem after_snoc : ∀ (a : List Chg) (s s' : List Fld × Int) (k : Nat) (c : Chg), afterGo a s k = (s', k + a.length, 0) → (applyR s'.1 s'.2 c).1 = 0 → afterGo (a ++ [c]) s k = ((applyR s'.1 s'.2 c).2, k + (a ++ [c]).length, 0)
  | [], s, s', k, c, h, h0 => by
    simp [afterGo] at h
    subst h
    simp [afterGo, h0]
  | x :: r, s, s', k, c, h, h0 => by
    unfold afterGo at h
    rw [List.cons_append]
    unfold afterGo
    by_cases hx : (applyR s.1 s.2 x).1 = 0
    · rw [if_neg (by rw [hx]; decide)] at h ⊢
      have := after_snoc r _ s' (k + 1) c (by rw [h]; simp; omega) h0
      rw [this]; simp; omega
    · rw [if_pos (by simpa using hx)] at h
      injection h with _ h; injection h with _ h
      exact absurd h hx
theorem after_madeGo : ∀ (cs : List Chg) (s : List Fld × Int) (acc : List Chg), afterGo acc ([], 1) 0 = (s, acc.length, 0) → ∃ s', afterGo (madeGo cs s acc) ([], 1) 0 = (s', (madeGo cs s acc).length, 0)
  | [], s, acc, h => ⟨s, h⟩
  | c :: r, s, acc, h => by
    unfold madeGo
    by_cases h0 : ((applyR s.1 s.2 (changeR s.1 s.2 c)).1 == 0) = true
    · rw [if_pos h0]
      have h0' : (applyR s.1 s.2 (changeR s.1 s.2 c)).1 = 0 := by simpa using h0
      have := after_snoc acc ([], 1) s 0 (changeR s.1 s.2 c) (by rw [h]; simp) h0'
      exact after_madeGo r _ _ (by rw [this]; simp)
    · rw [if_neg h0]; exact after_madeGo r s acc h
theorem after_made (cs : List Chg) (n : Nat) : (afterR (madeR cs n)).2.2 = 0 ∧ (afterR (madeR cs n)).2.1 = (madeR cs n).length := by
  obtain ⟨s', h⟩ := after_madeGo (cs.take n) ([], 1) [] rfl
  unfold afterR madeR
  rw [h]; exact ⟨rfl, rfl⟩
/-- The fields with values stay, Small may become Int. -/
def Stay (l l' : List Fld) : Prop := ∀ id f, findF l id = some f → f.ty ≠ 6 → ∃ f', findF l' id = some f' ∧ (f'.ty = f.ty ∨ f.ty = 2 ∧ f'.ty = 3)
theorem valid_wide {v : Val} (h : validR v 2 = true) : validR v 3 = true := by
  unfold validR at h ⊢
  simp only [typeR] at h ⊢
  cases hn : v.nul
  · rw [hn] at h
    simp [emR] at h ⊢
    exact h.1
  · rw [hn] at h; simpa using h
theorem fits_stay {l l' : List Fld} (hs : Stay l l') : ∀ (cs : List Cel) (p : Int), sfitsGo l p cs = true → sfitsGo l' p cs = true
  | [], p, _ => rfl
  | c :: r, p, h => by
    unfold sfitsGo at h ⊢
    by_cases h1 : (!hasF l c.id) = true
    · rw [if_pos h1] at h; cases h
    rw [if_neg h1] at h
    obtain ⟨f, hf⟩ := has_find.1 (by simpa using h1 : hasF l c.id = true)
    rw [get_find hf] at h
    by_cases h2 : c.id ≤ p
    · rw [if_pos h2] at h; cases h
    rw [if_neg h2] at h
    by_cases h3 : (f.ty == 6) = true
    · rw [if_pos h3] at h; cases h
    rw [if_neg h3] at h
    have h3' : f.ty ≠ 6 := by simpa using h3
    obtain ⟨f', hf', ht⟩ := hs _ _ hf h3'
    by_cases h4 : c.v.nul = true
    · rw [if_pos h4] at h; cases h
    rw [if_neg h4] at h
    by_cases h5 : (!validR c.v f.ty) = true
    · rw [if_pos h5] at h; cases h
    rw [if_neg h5] at h
    have h5' : validR c.v f.ty = true := by simpa using h5
    have h6 : validR c.v f'.ty = true ∧ f'.ty ≠ 6 := by
      rcases ht with ht | ⟨ht, ht2⟩
      · rw [ht]; exact ⟨h5', h3'⟩
      · rw [ht2]; rw [ht] at h5'; exact ⟨valid_wide h5', by omega⟩
    rw [has_find.2 ⟨f', hf'⟩, get_find hf', if_neg (by decide), if_neg h2, if_neg (by simpa using h6.2), if_neg h4, h6.1, if_neg (by decide)]
    exact fits_stay hs r c.id h
theorem stay_refl (l : List Fld) : Stay l l := fun id f h _ => ⟨f, h, .inl rfl⟩
theorem stay_with {l : List Fld} {g f : Fld} (hf : findF l g.id = some f) (ht : g.ty = f.ty ∨ f.ty = 2 ∧ g.ty = 3) : Stay l (withR l g) := by
  intro id q hq _
  rw [find_with, hq]
  by_cases hi : (q.id == g.id) = true
  · have e1 : q.id = g.id := by simpa using hi
    have e2 : id = g.id := by rw [← e1]; exact (find_mem hq).2.symm
    rw [e2, hf] at hq
    cases hq
    exact ⟨g, by show some (if f.id == g.id then g else f) = some g; rw [if_pos hi], ht⟩
  · exact ⟨q, by show some (if q.id == g.id then g else q) = some q; rw [if_neg hi], .inl rfl⟩
theorem stay_apply {l : List Fld} {nx : Int} {c : Chg} (hN : Nums l nx) (h0 : (applyR l nx c).1 = 0) (h2 : c.kind ≠ 2) (h6 : c.kind ≠ 6) (h7 : c.kind ≠ 7) : Stay l (applyR l nx c).2.1 := by
  have a1 : ∀ r, r = addR l nx c → r.1 = 0 → Stay l r.2.1 := by
    intro r hr h0; unfold addR at hr
    repeat' split at hr
    all_goals subst hr
    all_goals first | (exact absurd h0 (by decide)) | exact fun id f h _ => ⟨f, (find_plus hN _).1 _ _ h, .inl rfl⟩
  have a3 : ∀ r, r = oneR l nx c → r.1 = 0 → Stay l r.2.1 := by
    intro r hr h0; unfold oneR at hr
    by_cases hh : hasF l c.id = false
    · rw [if_pos hh] at hr; subst hr; exact absurd h0 (by decide)
    rw [if_neg hh, if_neg h2] at hr
    obtain ⟨f, hf⟩ := has_find.1 (by simpa using hh : hasF l c.id = true)
    rw [get_find hf] at hr
    have hf' : findF l f.id = some f := by rw [(find_mem hf).2]; exact hf
    unfold moveR at hr
    repeat' split at hr
    all_goals subst hr
    all_goals first | (exact absurd h0 (by decide)) | skip
    · exact stay_with (g := ⟨f.id, c.name, f.ty, f.par⟩) hf' (.inl rfl)
    · rename_i e1 e2 e3
      exact stay_with (g := ⟨f.id, f.name, 3, f.par⟩) hf' (.inr ⟨by simpa using e3, rfl⟩)
    · exact stay_with (g := ⟨f.id, f.name, f.ty, c.par⟩) hf' (.inl rfl)
  generalize hr : applyR l nx c = r at *
  unfold applyR at hr
  repeat' split at hr
  all_goals first | exact a1 _ hr.symm h0 | exact a3 _ hr.symm h0 | (subst hr; exact absurd h0 (by decide)) | skip
  · rename_i e; exact absurd (by simpa using e) h6
  · rename_i e; exact absurd (by simpa using e) h7
theorem fits_apply {l : List Fld} {nx : Int} {c : Chg} {r : List Cel} (hI : Inv l nx) (h0 : (applyR l nx c).1 = 0) (h2 : c.kind ≠ 2) (h6 : c.kind ≠ 6) (h7 : c.kind ≠ 7) (h : fitsR l r = true) : fitsR (applyR l nx c).2.1 r = true := by
  unfold fitsR at h ⊢
  rw [sfits_none l hI.ids] at h
  rw [sfits_none _ (inv_apply hI h0).ids]
  exact fits_stay (stay_apply hI.nums h0 h2 h6 h7) r 0 h
/-- The row does not lie in block b. -/
def Off {α : Type} (A : Option Addr) (l : List α) (b : Nat) : Prop := l = [] ∨ ∀ a, A = some a → a.block ≠ b
theorem Off.old {α : Type} {enc : α → List Value} {sz : Nat} {w : World} {A : Option Addr} {l : List α} {b : Nat} (hs : ∀ x, (enc x).length = sz) (h0 : 0 < sz) (h : Rd enc sz w A l) (hb : w.heap.size ≤ b) : Off A l b := by
  cases l with
  | nil => exact .inl rfl
  | cons x r =>
    rcases h.2 with h | ⟨b', o, rfl, hc⟩
    · cases h
    · refine .inr fun a ha => ?_
      cases ha
      have := cell_lt (hc 0 x 0 ((enc x)[0]'(by rw [hs]; exact h0)) rfl (List.getElem?_eq_getElem _))
      simp at this ⊢; omega
theorem Off.frm {α : Type} {A : Option Addr} {l : List α} {b base : Nat} (h : Frm base A) (hb : b < base) : Off A l b := .inr fun a ha => by have := h a ha; omega
theorem Rd.apart {α : Type} {enc : α → List Value} {sz : Nat} {w : World} {A : Option Addr} {l : List α} {b i : Nat} (h : Rd enc sz w A l) (ho : Off A l b) (u : Value) : Rd enc sz (w.setCell ⟨b, i, none⟩ u) A l := by
  refine ⟨h.1, ?_⟩
  rcases h.2 with h2 | ⟨b', o, rfl, hc⟩
  · exact .inl h2
  · rcases ho with ho | ho
    · exact .inl ho
    · refine .inr ⟨b', o, rfl, fun j x k u' hj hi => ?_⟩
      have h3 := hc j x k u' hj hi
      have hne := ho _ rfl
      unfold World.cell? at h3 ⊢
      rw [Below.heap_setCell w ⟨b, i, none⟩ u b' (by simpa using hne)]
      exact h3
end Go.Proofs.Ythcphdgfdkgimaa
