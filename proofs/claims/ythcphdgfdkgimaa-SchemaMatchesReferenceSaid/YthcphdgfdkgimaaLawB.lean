/- Plain: rows that are made fit; numbers rise along a schema. -/
import Derived.Test.YthcphdgfdkgimaaLawA
import Derived.Laws.Bits128
set_option linter.unusedSimpArgs false
set_option linter.unusedVariables false
namespace Go.Proofs.Ythcphdgfdkgimaa
open Go.RowKit
def Srt (l : List Fld) : Prop := (l.map (·.id)).Pairwise (· < ·)
theorem srt_plus {l : List Fld} {nx : Int} (hN : Nums l nx) (h : Srt l) (f : Fld) : Srt (plusR l nx f) := by
  unfold Srt plusR
  rw [List.map_append, List.pairwise_append]
  refine ⟨h, by simp, fun a ha b hb => ?_⟩
  obtain ⟨g, hg, rfl⟩ := List.mem_map.1 ha
  have := (hN.2 g hg).2
  simp at hb; omega
theorem srt_without {l : List Fld} (h : Srt l) (x y : Int) : Srt (withoutR l x y) := List.Pairwise.sublist (List.Sublist.map _ List.filter_sublist) h
theorem srt_with {l : List Fld} (h : Srt l) (f : Fld) : Srt (withR l f) := by unfold Srt; rw [with_ids]; exact h
theorem srt_apply {l : List Fld} {nx : Int} {c : Chg} (hN : Nums l nx) (h1 : 1 ≤ nx) (h : Srt l) : Srt (applyR l nx c).2.1 := by
  have hb : ∀ e, Srt (bad e).2.1 := fun e => by simp [bad, Srt]
  have a1 : ∀ r, r = addR l nx c → Srt r.2.1 := by
    intro r hr; unfold addR at hr
    repeat' split at hr
    all_goals subst hr
    all_goals first | exact hb _ | exact srt_plus hN h _
  have a2 : ∀ f p r, r = moveR l nx f p → Srt r.2.1 := by
    intro f p r hr; unfold moveR at hr
    repeat' split at hr
    all_goals subst hr
    all_goals first | exact hb _ | exact srt_with h _
  have a3 : ∀ r, r = oneR l nx c → Srt r.2.1 := by
    intro r hr; unfold oneR at hr
    repeat' split at hr
    all_goals first | exact a2 _ _ _ hr | skip
    all_goals subst hr
    all_goals first | exact hb _ | exact srt_with h _ | exact srt_without h _ _
  have a4 : ∀ r, r = splitR l nx c → Srt r.2.1 := by
    intro r hr; unfold splitR at hr
    repeat' split at hr
    all_goals subst hr
    all_goals first | exact hb _ | exact srt_plus (nums_plus (nums_without hN _ _) h1 _) (srt_plus (nums_without hN _ _) (srt_without h _ _) _) _
  have a5 : ∀ r, r = joinR l nx c → Srt r.2.1 := by
    intro r hr; unfold joinR at hr
    repeat' split at hr
    all_goals subst hr
    all_goals first | exact hb _ | exact srt_plus (nums_without hN _ _) (srt_without h _ _) _
  generalize hr : applyR l nx c = r at *
  unfold applyR at hr
  repeat' split at hr
  all_goals first | exact a1 _ hr.symm | exact a3 _ hr.symm | exact a4 _ hr.symm | exact a5 _ hr.symm | (subst hr; exact hb _)
theorem srt_after : ∀ (cs : List Chg) (s : List Fld × Int) (k : Nat), Inv s.1 s.2 → Srt s.1 → Srt (afterGo cs s k).1.1
  | [], s, k, _, h => h
  | c :: r, s, k, hi, h => by
    unfold afterGo
    by_cases h0 : (applyR s.1 s.2 c).1 = 0
    · rw [if_neg (by rw [h0]; decide)]
      exact srt_after r _ _ (inv_apply hi h0) (srt_apply hi.nums hi.pos h)
    · rw [if_pos (by simpa using h0)]; exact h
theorem and1 (n : Int) : bits BinOp.and IntKind.i64 n 1 = n % 2 := by
  have h1 : (BitVec.ofInt 64 1).toNat = 2 ^ 1 - 1 := by decide
  have key : (BitVec.ofInt 64 n &&& BitVec.ofInt 64 1).toNat = (n % ((2 ^ 64 : Nat) : Int)).toNat % 2 ^ 1 := by
    rw [BitVec.toNat_and, BitVec.toNat_ofInt, h1, Nat.and_two_pow_sub_one_eq_mod]
  show IntKind.i64.wrap ((BitVec.ofInt 64 n &&& BitVec.ofInt 64 1).toNat : Nat) = n % 2
  rw [key, IntKind.wrap_i64]
  omega
theorem emp_nil : (⟨#[]⟩ : ByteArray).toList = [] := by rw [ByteArray.toList_eq]
theorem fit_valid {v : Val} {t : Int} (ht : typeR t = true) (hn : (vmadeR v t).nul = false) : validR (vmadeR v t) t = true := by
  have h5 : t = 1 ∨ t = 2 ∨ t = 3 ∨ t = 4 ∨ t = 5 := by unfold typeR at ht; simp at ht; omega
  unfold vmadeR at hn ⊢
  rw [ht] at hn ⊢
  simp only [Bool.not_true, Bool.false_eq_true, if_false] at hn ⊢
  unfold fitR at hn ⊢
  cases hv : v.nul
  · rw [hv] at hn
    rcases h5 with rfl | rfl | rfl | rfl | rfl
    · simp [validR, typeR, emR, and1, emp_nil]; omega
    · simp [validR, typeR, emR, emp_nil]; unfold wrap64 wrap32; omega
    · simp [validR, typeR, emR, emp_nil]
    · simp [validR, typeR, emR]
      by_cases h2 : 200 < (v.s.size : Int)
      · rw [if_pos h2]; simp; omega
      · rw [if_neg h2]; simp; omega
    · simp [validR, typeR, emR, emp_nil]
      have h1 := Int.tmod_lt_of_pos v.n (show (0 : Int) < 1000001 by omega)
      have h2 := Int.lt_tmod_of_pos v.n (show (0 : Int) < 1000001 by omega)
      omega
  · rw [hv] at hn; simp at hn
theorem vmade_ok {v : Val} {t : Int} (h : v.ok) : (vmadeR v t).ok := by
  obtain ⟨h1, h2, h3⟩ := h
  unfold vmadeR
  have hz : ∀ b : Bool, (⟨b, 0, ⟨#[]⟩⟩ : Val).ok := fun b => ⟨Nat.zero_le _, by show -9223372036854775808 ≤ (0 : Int); omega, by show (0 : Int) ≤ _; omega⟩
  split
  · exact hz true
  unfold fitR
  split
  · exact hz true
  split
  · refine ⟨Nat.zero_le _, ?_, ?_⟩ <;> simp only [and1] <;> omega
  split
  · refine ⟨Nat.zero_le _, ?_, ?_⟩ <;> simp only [wrap64] <;> omega
  split
  · have h1 := Int.tmod_lt_of_pos v.n (show (0 : Int) < 1000001 by omega)
    have h2 := Int.lt_tmod_of_pos v.n (show (0 : Int) < 1000001 by omega)
    refine ⟨Nat.zero_le _, ?_, ?_⟩ <;> simp only <;> omega
  split
  · split
    · refine ⟨?_, ?_, ?_⟩
      · simp; omega
      · simp only; omega
      · simp only; omega
    · exact ⟨h1, by simp only; omega, by simp only; omega⟩
  · exact ⟨Nat.zero_le _, h2, h3⟩
theorem row_ok {l : List Fld} {raw : List Val} (h : ∀ v ∈ raw, v.ok) : ∀ c ∈ rowR l raw, c.v.ok := by
  intro c hc
  unfold rowR at hc
  obtain ⟨p, hp, hcp⟩ := List.mem_filterMap.1 hc
  have hv := h p.2 (List.of_mem_zip hp).2
  unfold cellR at hcp
  repeat' split at hcp
  all_goals first | (cases hcp; done) | skip
  injection hcp with hcp
  subst hcp
  exact vmade_ok hv
theorem row_len (l : List Fld) (raw : List Val) : (rowR l raw).length ≤ l.length := by
  unfold rowR
  refine Nat.le_trans (List.length_filterMap_le _ _) ?_
  rw [List.length_zip]; omega
theorem row_go {l : List Fld} {nx : Int} (hI : Inv l nx) : ∀ (l' : List Fld) (raw : List Val) (p : Int), (∀ f ∈ l', f ∈ l ∧ p < f.id) → (l'.map (·.id)).Pairwise (· < ·) → sfitsGo l p ((l'.zip raw).filterMap cellR) = true
  | [], raw, p, _, _ => by simp [sfitsGo]
  | f :: r, [], p, _, _ => by simp [sfitsGo]
  | f :: r, v :: raw, p, hm, hs => by
    obtain ⟨hf, hp⟩ := hm f (.head _)
    simp only [List.map_cons, List.pairwise_cons] at hs
    have hid : ∀ g ∈ r, f.id < g.id := fun g hg => hs.1 g.id (List.mem_map.2 ⟨g, hg, rfl⟩)
    rw [List.zip_cons_cons, List.filterMap_cons]
    have hff := find_of hI.nums.1 hf
    have hh : hasF l f.id = true := has_find.2 ⟨f, hff⟩
    have ht := hI.tr.types f hf
    cases hc : cellR (f, v) with
    | none => exact row_go hI r raw p (fun g hg => ⟨(hm g (.tail _ hg)).1, by have := hid g hg; omega⟩) hs.2
    | some c =>
      have ih := row_go hI r raw f.id (fun g hg => ⟨(hm g (.tail _ hg)).1, hid g hg⟩) hs.2
      unfold cellR at hc
      simp only at hc
      by_cases h6 : (f.ty == 6) = true
      · rw [if_pos h6] at hc; cases hc
      rw [if_neg h6] at hc
      by_cases hv : v.nul = true
      · rw [if_pos hv] at hc; cases hc
      rw [if_neg hv] at hc
      by_cases hn : (vmadeR v f.ty).nul = true
      · rw [if_pos hn] at hc; cases hc
      rw [if_neg hn] at hc
      injection hc with hc
      subst hc
      have hn' : (vmadeR v f.ty).nul = false := by simpa using hn
      have h6' : f.ty ≠ 6 := by simpa using h6
      have hty : typeR f.ty = true := by unfold typeR; simp; omega
      unfold sfitsGo
      simp only
      rw [hh, get_find hff, if_neg (by decide), if_neg (by omega), if_neg h6, hn', if_neg (by decide), fit_valid hty hn', if_neg (by decide)]
      exact ih
theorem row_fits {l : List Fld} {nx : Int} (hI : Inv l nx) (hs : Srt l) (raw : List Val) : fitsR l (rowR l raw) = true := by
  unfold fitsR
  rw [sfits_none l hI.ids]
  exact row_go hI l raw 0 (fun f hf => ⟨hf, by have := hI.ids f hf; omega⟩) hs
end Go.Proofs.Ythcphdgfdkgimaa
