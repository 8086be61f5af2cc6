/- Arguments that came in, read as lists and records: a struct's cells, leaf by leaf; a slice of structs. No program in sight. -/
import Derived.Test.YthcphdgfdkgimaaBase
import Derived.Deep.Slices
import Derived.Deep.Fields
import Derived.ChangeSame
import Derived.ProofKit
import Derived.SizedLaws
import Derived.OpenShut
set_option linter.unusedSimpArgs false
set_option linter.unusedVariables false
namespace Go.Proofs.Ythcphdgfdkgimaa
open Go.RowKit
open Go.ChangeShapes Go.WideShapes Go.Deep
def leaves (P : Program) : Nat → TypeId → List TypeId
  | 0, t => [t]
  | n + 1, t => match P.underlying t with
    | some (.struct fs) => fs.toList.flatMap (fun f => leaves P n f.type)
    | some (.array k e) => (List.range k).flatMap (fun _ => leaves P n e)
    | _ => [t]
def offOk (P : Program) : List Field → Nat → Bool
  | [], _ => true
  | f :: r, o => f.offset == o && offOk P r (o + P.cellsOf f.type)
def fitsL (P : Program) : Nat → TypeId → Bool
  | 0, t => P.cellsOf t == 1
  | n + 1, t => match P.underlying t with
    | some (.struct fs) => offOk P fs.toList 0 && fs.toList.all (fun f => fitsL P n f.type && ((leaves P n f.type).length == P.cellsOf f.type))
    | some (.array k e) => fitsL P n e && ((leaves P n e).length == P.cellsOf e)
    | _ => P.cellsOf t == 1
section
variable {H : Type} {enc : TypeId × Value → H} {P : Program} {w : World} {base : Nat} {spare : Nat → Bool} {held : Bool}
/-- The cell v reads at the type t. -/
def LeafAt (enc : TypeId × Value → H) (P : Program) (w : World) (base : Nat) (spare : Nat → Bool) (held : Bool) (t : TypeId) (v : Value) : Prop := ∃ f y, DataW.trod enc P w base spare held f t [v] = some y
theorem trod_leaf : ∀ (n : Nat) (t : TypeId) (fuel : Nat) (cs : List Value) (x : DataW H × List MemPlace), fitsL P n t = true → DataW.trod enc P w base spare held fuel t cs = some x → cs.length = P.cellsOf t →
    (leaves P n t).length = P.cellsOf t → ∀ (i : Nat) (lt : TypeId) (v : Value), (leaves P n t)[i]? = some lt → cs[i]? = some v → LeafAt enc P w base spare held lt v
  | 0, t, fuel, cs, x, hf, h, hl, _, i, lt, v, hi, hv => by
    simp only [fitsL, beq_iff_eq] at hf
    simp only [leaves] at hi
    obtain ⟨c, rfl⟩ := List.length_eq_one_iff.1 (hl.trans hf)
    cases i with
    | zero => simp at hi hv; subst hi; subst hv; exact ⟨_, _, h⟩
    | succ i => simp at hi
  | n + 1, t, fuel, cs, x, hf, h, hl, hll, i, lt, v, hi, hv => by
    have one : P.cellsOf t = 1 → (leaves P (n + 1) t) = [t] → LeafAt enc P w base spare held lt v := by
      intro h1 h2
      rw [h2] at hi
      obtain ⟨c, rfl⟩ := List.length_eq_one_iff.1 (hl.trans h1)
      cases i with
      | zero => simp at hi hv; subst hi; subst hv; exact ⟨_, _, h⟩
      | succ i => simp at hi
    unfold fitsL at hf
    unfold leaves at hi one hll
    split at hf
    · rename_i fs hu
      rw [hu] at hi hll
      simp only at hi hll
      obtain ⟨xs, m, _, _, _, hlx, hg⟩ := DataW.trod_struct hu h
      simp only [Bool.and_eq_true, List.all_eq_true, beq_iff_eq] at hf
      have ih : ∀ (t : TypeId) (fuel : Nat) (cs : List Value) (x : DataW H × List MemPlace), (fitsL P n t = true ∧ (leaves P n t).length = P.cellsOf t) → DataW.trod enc P w base spare held fuel t cs = some x → cs.length = P.cellsOf t → ∀ (i : Nat) (lt : TypeId) (v : Value), (leaves P n t)[i]? = some lt → cs[i]? = some v → LeafAt enc P w base spare held lt v :=
        fun t fuel cs x hf h hl => trod_leaf n t fuel cs x hf.1 h hl hf.2
      clear one
      have parts : ∀ (fl : List Field) (o : Nat), offOk P fl o = true → (∀ f ∈ fl, fitsL P n f.type = true ∧ (leaves P n f.type).length = P.cellsOf f.type ∧ ∃ fuel x, DataW.trod enc P w base spare held fuel f.type ((cs.drop f.offset).take (P.cellsOf f.type)) = some x) →
          ∀ (i : Nat) (lt : TypeId) (v : Value), (fl.flatMap (fun f => leaves P n f.type))[i]? = some lt → cs[o + i]? = some v → o + (fl.flatMap (fun f => leaves P n f.type)).length ≤ cs.length → LeafAt enc P w base spare held lt v := by
        intro fl
        induction fl with
        | nil => intro o _ _ i lt v h; simp at h
        | cons f r ihf =>
          intro o ho hf i lt v h hv hlen
          simp only [offOk, Bool.and_eq_true, beq_iff_eq] at ho
          obtain ⟨h1, h2, fuel, x, h3⟩ := hf f (.head _)
          rw [List.flatMap_cons] at h hlen
          rw [List.length_append] at hlen
          by_cases hi : i < (leaves P n f.type).length
          · rw [List.getElem?_append_left hi] at h
            refine ih f.type fuel _ x ⟨h1, h2⟩ h3 ?_ i lt v h ?_
            · rw [List.length_take, List.length_drop]; omega
            · rw [List.getElem?_take, if_pos (by omega), List.getElem?_drop, ho.1]; exact hv
          · rw [List.getElem?_append_right (by omega)] at h
            refine ihf (o + P.cellsOf f.type) ho.2 (fun g hg => hf g (.tail _ hg)) (i - (leaves P n f.type).length) lt v h ?_ (by omega)
            rw [← h2, show o + (leaves P n f.type).length + (i - (leaves P n f.type).length) = o + i by omega]; exact hv
      refine parts fs.toList 0 hf.1 (fun f hm => ?_) i lt v hi (by rw [Nat.zero_add]; exact hv) (by rw [hll]; omega)
      obtain ⟨j, hj, hjf⟩ := List.getElem_of_mem hm
      have hjs : fs[j]? = some f := by rw [← hjf]; simp at hj ⊢
      have hjx : xs[j]? = some (xs[j]'(by rw [hlx]; simpa using hj)) := List.getElem?_eq_getElem _
      exact ⟨(hf.2 f hm).1, (hf.2 f hm).2, m, _, (hg j f hjs).trans hjx⟩
    · rename_i k e hu
      rw [hu] at hi hll
      simp only at hi hll
      obtain ⟨xs, m, _, _, _, hlx, hg⟩ := DataW.trod_array hu h
      simp only [Bool.and_eq_true, beq_iff_eq] at hf
      clear one
      have parts : ∀ (q s : Nat), s + q = k → ∀ (i : Nat) (lt : TypeId) (v : Value), ((List.range q).flatMap (fun _ => leaves P n e))[i]? = some lt → cs[s * P.cellsOf e + i]? = some v → (s + q) * P.cellsOf e ≤ cs.length → LeafAt enc P w base spare held lt v := by
        intro q
        induction q with
        | zero => intro s _ i lt v h; simp at h
        | succ q ihq =>
          intro s hs i lt v h hv hlen
          rw [List.range_succ_eq_map, List.flatMap_cons, List.flatMap_map] at h
          by_cases hi : i < (leaves P n e).length
          · rw [List.getElem?_append_left hi] at h
            have hsx : xs[s]? = some (xs[s]'(by rw [hlx]; omega)) := List.getElem?_eq_getElem _
            have h3 := (hg s (by omega)).trans hsx
            have hle : (s + 1) * P.cellsOf e ≤ (s + (q + 1)) * P.cellsOf e := Nat.mul_le_mul_right _ (by omega)
            rw [Nat.succ_mul] at hle
            refine trod_leaf n e m _ _ hf.1 h3 ?_ hf.2 i lt v h ?_
            · rw [List.length_take, List.length_drop]; omega
            · rw [List.getElem?_take, if_pos (by omega), List.getElem?_drop]; exact hv
          · rw [List.getElem?_append_right (by omega)] at h
            refine ihq (s + 1) (by omega) (i - (leaves P n e).length) lt v h ?_ (by rw [show s + 1 + q = s + (q + 1) by omega]; exact hlen)
            rw [← hv]; congr 1
            rw [Nat.succ_mul, hf.2] at *; omega
      refine parts k 0 (by omega) i lt v hi (by rw [Nat.zero_mul, Nat.zero_add]; exact hv) ?_
      rw [Nat.zero_add, hl, ← hll]
      clear parts hi
      have : ∀ q, ((List.range q).flatMap (fun _ => leaves P n e)).length = q * P.cellsOf e := by
        intro q
        induction q with
        | zero => simp
        | succ q ihq => rw [List.range_succ, List.flatMap_append, List.length_append, ihq, Nat.succ_mul]; simp [hf.2]
      rw [this]; exact Nat.le_refl _
    · rename_i hns hna
      refine one (by simpa using hf) ?_
      split
      · rename_i fs hu; exact absurd hu (hns fs)
      · rename_i k e hu; exact absurd hu (hna k e)
      · rfl
theorem leaf_int {t : TypeId} {k : IntKind} {v : Value} (hu : P.underlying t = some (.int k)) (h : LeafAt enc P w base spare held t v) : ∃ n, v = .int k n ∧ (Lit.int k n).wf = true := by
  obtain ⟨f, y, h⟩ := h
  obtain ⟨n, e, _, hw⟩ := DataW.trod_int hu h
  simp at e
  exact ⟨n, e, hw⟩
theorem leaf_str {t : TypeId} {v : Value} (hu : P.underlying t = some .string) (h : LeafAt enc P w base spare held t v) : ∃ s : ByteArray, v = .string s ∧ s.size ≤ 9223372036854775807 := by
  obtain ⟨f, y, h⟩ := h
  obtain ⟨s, e, _, hw⟩ := DataW.trod_string hu h
  simp at e
  exact ⟨s, e, by unfold maxLen at hw; omega⟩
theorem leaf_bool {t : TypeId} {v : Value} (hu : P.underlying t = some .bool) (h : LeafAt enc P w base spare held t v) : ∃ b, v = .bool b := by
  obtain ⟨f, y, h⟩ := h
  obtain ⟨b, e, _⟩ := DataW.trod_bool hu h
  simp at e
  exact ⟨b, e⟩
theorem list_of {α : Type} {Q : Nat → α → Prop} : ∀ n : Nat, (∀ i, i < n → ∃ x, Q i x) → ∃ l : List α, l.length = n ∧ ∀ i x, l[i]? = some x → Q i x
  | 0, _ => ⟨[], rfl, fun i x h => by simp at h⟩
  | n + 1, h => by
    obtain ⟨l, hl, hq⟩ := list_of n (fun i hi => h i (by omega))
    obtain ⟨x, hx⟩ := h n (by omega)
    refine ⟨l ++ [x], by simp [hl], fun i y hy => ?_⟩
    by_cases hi : i < l.length
    · rw [List.getElem?_append_left hi] at hy; exact hq i y hy
    · rw [List.getElem?_append_right (by omega)] at hy
      have h0 : i - l.length = 0 := by
        apply Classical.byContradiction
        intro hne
        rw [List.getElem?_eq_none (by simp; omega)] at hy; cases hy
      rw [h0] at hy
      simp at hy
      subst hy
      obtain rfl : i = n := by omega
      exact hx
/-- A slice of structs that came in. -/
theorem open_rd {α : Type} {en : α → List Value} {sz : Nat} {Ok : α → Prop} {t e : TypeId} {fuel n : Nat} {cs : List Value} {x : DataW H × List MemPlace} (hs : ∀ y, (en y).length = sz) (h0 : 0 < sz) (ht : P.underlying t = some (.slice e)) (hsz : P.cellsOf e = sz) (hfit : fitsL P n e = true) (hll : (leaves P n e).length = P.cellsOf e)
    (hread : ∀ cs : List Value, cs.length = sz → (∀ (i : Nat) (lt : TypeId) (v : Value), (leaves P n e)[i]? = some lt → cs[i]? = some v → LeafAt enc P w base spare held lt v) → ∃ y, en y = cs ∧ Ok y) (h : DataW.trod enc P w base spare held fuel t cs = some x) :
    ∃ (A : Option Addr) (l : List α) (c : Nat), cs = [.slice A l.length c] ∧ (l = [] ∨ ∃ b o, A = some ⟨b, o, none⟩ ∧ ∀ j y i u, l[j]? = some y → (en y)[i]? = some u → w.cell? ⟨b, o + j * sz + i, none⟩ = some u) ∧ (∀ y ∈ l, Ok y) ∧ ((x.1 = .nil ∧ l = []) ∨ ∃ es sp, x.1 = .slice es sp ∧ es.length = l.length) := by
  rcases open_slice ht h with ⟨rfl, rfl⟩ | ⟨a, len, cap, m, fu, D, Pl, rfl, hb, hl, hm, hmm, rfl, hi⟩
  · exact ⟨none, [], 0, rfl, .inl rfl, fun y hy => by simp at hy, .inl ⟨rfl, rfl⟩⟩
  · have hlm : len ≤ m := by rw [hmm]; split <;> omega
    obtain ⟨l, hln, hq⟩ := list_of (Q := fun (i : Nat) (y : α) => Ok y ∧ ∀ j u, (en y)[j]? = some u → w.cell? ((a.add (i * sz)).add j) = some u) len (fun i hil => by
      obtain ⟨cs', hc, ht'⟩ := hi i (by omega)
      rw [hsz] at hc
      obtain ⟨_, hcl, hat⟩ := World.cells?_some hc
      obtain ⟨y, hy, hok⟩ := hread cs' hcl (fun j lt v h1 h2 => trod_leaf n e fu cs' _ hfit ht' (hcl.trans hsz.symm) hll j lt v h1 h2)
      refine ⟨y, hok, fun j u hu => ?_⟩
      have hj : j < sz := by rw [← hs y]; exact (List.getElem?_eq_some_iff.1 hu).1
      rw [hat j hj, ← hy]; exact hu)
    refine ⟨some a, l, cap, by rw [hln], ?_, fun y hy => ?_, .inr ⟨_, _, rfl, by simp [hln]⟩⟩
    · cases l with
      | nil => exact .inl rfl
      | cons y r =>
        right
        obtain ⟨b, o, s⟩ := a
        have hs0 : s = none := by
          have h1 := (hq 0 y rfl).2 0 ((en y)[0]'(by rw [hs]; exact h0)) (List.getElem?_eq_getElem _)
          rw [Nat.zero_mul] at h1
          simp only [Addr.add, if_true] at h1
          unfold World.cell? at h1
          split at h1
          · split at h1
            · cases h1
            · rename_i hsp; cases s with
              | none => rfl
              | some q => simp at hsp
          · cases h1
        subst hs0
        refine ⟨b, o, rfl, fun j z i u hj hu => ?_⟩
        have h1 := (hq j z hj).2 i u hu
        rw [← h1]
        congr 1
        unfold Addr.add
        by_cases e1 : j * sz = 0 <;> by_cases e2 : i = 0 <;> simp [e1, e2]
    · obtain ⟨j, hj, rfl⟩ := List.getElem_of_mem hy
      exact (hq j _ (List.getElem?_eq_getElem hj)).1
end
theorem list8 {α : Type} {l : List α} (h : l.length = 8) : ∃ a b c d e f g i, l = [a, b, c, d, e, f, g, i] := by
  match l, h with
  | [a, b, c, d, e, f, g, i], _ => exact ⟨a, b, c, d, e, f, g, i, rfl⟩
theorem list4 {α : Type} {l : List α} (h : l.length = 4) : ∃ a b c d, l = [a, b, c, d] := by
  match l, h with
  | [a, b, c, d], _ => exact ⟨a, b, c, d, rfl⟩
theorem list3 {α : Type} {l : List α} (h : l.length = 3) : ∃ a b c, l = [a, b, c] := by
  match l, h with
  | [a, b, c], _ => exact ⟨a, b, c, rfl⟩
end Go.Proofs.Ythcphdgfdkgimaa
