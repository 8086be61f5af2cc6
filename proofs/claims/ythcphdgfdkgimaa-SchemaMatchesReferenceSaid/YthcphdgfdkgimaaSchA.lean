/- Package schema, part A: closures, IndexFunc at each, index, Field (made by tools/mk_scha.py). -/
import Derived.Test.YthcphdgfdkgimaaRefS
set_option linter.unusedSimpArgs false
set_option linter.unusedVariables false
namespace Go.Proofs.Ythcphdgfdkgimaa
open Go.RowKit
def firstGo (p : Fld → Bool) : List Fld → Nat → Int
  | [], _ => -1
  | f :: r, k => if p f = true then k else firstGo p r (k + 1)
def firstR (p : Fld → Bool) (l : List Fld) : Int := firstGo p l 0
theorem firstGo_step {p : Fld → Bool} {l : List Fld} {k : Nat} (hk : k < l.length) : firstGo p (l.drop k) k = if p l[k] = true then (k : Int) else firstGo p (l.drop (k + 1)) (k + 1) := by
  rw [List.drop_eq_getElem_cons hk]; rfl
theorem firstGo_any (p : Fld → Bool) : ∀ (l : List Fld) (k : Nat), decide (0 ≤ firstGo p l k) = l.any p
  | [], k => by simp [firstGo]
  | f :: r, k => by
    unfold firstGo
    cases h : p f
    · simpa [h] using firstGo_any p r (k + 1)
    · simp [h]
theorem firstGo_find (p : Fld → Bool) : ∀ (l : List Fld) (k : Nat), (firstGo p l k = -1 ∧ l.find? p = none) ∨ ∃ j, firstGo p l k = ((k + j : Nat) : Int) ∧ ∃ h : j < l.length, l.find? p = some l[j]
  | [], k => .inl ⟨rfl, rfl⟩
  | f :: r, k => by
    unfold firstGo
    cases h : p f
    · rcases firstGo_find p r (k + 1) with ⟨h1, h2⟩ | ⟨j, h1, hj, h2⟩
      · exact .inl ⟨by simpa [h] using h1, by simp [List.find?_cons, h, h2]⟩
      · refine .inr ⟨j + 1, ?_, by simp; omega, by simp [List.find?_cons, h, h2]⟩
        simp only [Bool.false_eq_true, if_false]; rw [h1]; congr 1; omega
    · exact .inr ⟨0, by simp, by simp, by simp [List.find?_cons, h]⟩
set_option maxHeartbeats 400000 in
theorem sIndexC (q : Addr) (id : Int) (f : Fld) (w : World) (hq : w.cell? q = some (.int .i64 id)) : Calls Try.prog 71 #[fldV f, .pointer (some q)] w fun e w' => e = .returned (.bool (f.id == id)) ∧ Below w.heap.size w w' := by
  have hl := cell_lt hq
  have hq2 : (w.alloc (.cells f.enc.toArray 53)).cell? q = some (.int .i64 id) := cell_keep (by repeat (first | exact below_refl _ | apply below_alloc | apply below_drew | apply below_drewN)) hq
  go_enter Try.func71, Try.ntmps71
  go_wp2
  exact end_tmp rfl rfl rfl ⟨rfl, (by repeat (first | exact below_refl _ | apply below_alloc | apply below_drew | apply below_drewN))⟩
set_option maxHeartbeats 800000 in
theorem sIndexF (A : Option Addr) (c : Nat) (l : List Fld) (q : Addr) (id : Int) (w : World) (hr : RdF w A l) (hq : w.cell? q = some (.int .i64 id)) :
    Calls Try.prog 70 #[.slice A l.length c, .func (.func 71) #[] #[.pointer (some q)]] w fun e w' => e = .returned (.int .i64 (firstR (fun g : Fld => g.id == id) l)) ∧ Below w.heap.size w w' := by
  have hl := hr.1
  go_enter Try.func70, Try.ntmps70
  go_wp2
  go_loopw [8] (fun i wr => ∃ (k : Nat), i = .int .i64 k ∧ k ≤ l.length ∧ Hid (firstGo (fun g : Fld => g.id == id) (l.drop k) k = firstR (fun g : Fld => g.id == id) l) ∧ Below w.heap.size w wr) (fun i _ => l.length - (intOf i).toNat)
  case atStart => exact ⟨0, rfl, by omega, rfl, below_refl _⟩
  case round =>
    obtain ⟨k, rfl, hk, hgo, HB⟩ := hrel
    by_cases hlt : k < l.length
    · obtain ⟨b, o, rfl, hbw, hb, f0, f1, f2, f3⟩ := RdF.atk hr HB k hlt
      have hi0 : (0 : Int) ≤ (k : Int) := by omega
      have hi1 : (k : Int) < (l.length : Int) := by omega
      have hst := Lib.hid (firstGo_step (p := fun g : Fld => g.id == id) hlt)
      go_wp2_with (go_at_call 71; refine (sIndexC q id l[k] _ (cell_keep HB hq)).mono ?_; rintro e w1 ⟨rfl, hb1⟩)
      · have hp : (l[k].id == id) = true := by assumption
        exact end_int rfl rfl rfl (by rw [← hgo.out, hst.out]; exact (if_pos hp).symm) ⟨rfl, below_of HB hb1⟩
      · have hp : (l[k].id == id) = false := by assumption
        go_roundw
        case rel => exact ⟨k + 1, by go_num, by omega, by rw [← hgo.out, hst.out, if_neg (by rw [hp]; decide)]; exact rfl, below_of HB hb1⟩
        case measure => simp [intOf]; omega
    · go_wp2
      exact end_int rfl rfl rfl (by rw [← hgo.out, List.drop_eq_nil_of_le (by omega)]; rfl) ⟨rfl, HB⟩
set_option maxHeartbeats 400000 in
theorem sIndex (A : Option Addr) (c : Nat) (l : List Fld) (nx id : Int) (w : World) (hr : RdF w A l) :
    Calls Try.prog 47 #[.agg #[.slice A l.length c, .int .i64 nx], .int .i64 id] w fun e w' => e = .returned (.int .i64 (firstR (fun g : Fld => g.id == id) l)) ∧ Below w.heap.size w w' := by
  go_enter Try.func47, Try.ntmps47
  go_wp2_with (go_at_call 70; refine (sIndexF _ _ _ ⟨w.heap.size + 1, 0, none⟩ id _ (hr.keep (by repeat (first | exact below_refl _ | apply below_alloc | apply below_drew | apply below_drewN))) ((box_new _ [.int .i64 id] 3 (by simp)).cell 0 _ rfl)).mono ?_; rintro e w1 ⟨rfl, hb⟩)
  exact end_tmp rfl rfl rfl ⟨rfl, below_of (by repeat (first | exact below_refl _ | apply below_alloc | apply below_drew | apply below_drewN)) hb⟩
set_option maxHeartbeats 800000 in
theorem sField (A : Option Addr) (c : Nat) (l : List Fld) (nx id : Int) (w : World) (hr : RdF w A l) :
    Calls Try.prog 19 #[.agg #[.slice A l.length c, .int .i64 nx], .int .i64 id] w fun e w' => e = .returned (.tuple #[fldV (getF l id), .bool (hasF l id)]) ∧ Below w.heap.size w w' := by
  have hl := hr.1
  go_enter Try.func19, Try.ntmps19
  go_upto_region 1 with (fail)
  refine wp_letter ?_
  intro W hW
  have h0 : Box W w.heap.size [.slice A l.length c, .int .i64 nx] 31 := by subst hW; exact (box_new _ _ _ rfl).alloc _
  have h1 : Box W (w.heap.size + 1) [.int .i64 0, .string ⟨#[]⟩, .int .i64 0, .int .i64 0] 53 := by subst hW; exact box_new _ _ _ (by simp)
  have hB : Below w.heap.size w W := by subst hW; exact (by repeat (first | exact below_refl _ | apply below_alloc | apply below_drew | apply below_drewN))
  clear hW
  have h0z := h0.lt; have h0c0 := h0.cell 0 _ rfl; have h0c1 := h0.cell 1 _ rfl; have h1z := h1.lt; have h1c0 := h1.cell 0 _ rfl; have h1f0 := h1.frozen 0; have h1c1 := h1.cell 1 _ rfl; have h1f1 := h1.frozen 1; have h1c2 := h1.cell 2 _ rfl; have h1f2 := h1.frozen 2; have h1c3 := h1.cell 3 _ rfl; have h1f3 := h1.frozen 3
  go_upto_region 2 with (go_at_call 47; refine (sIndex _ _ _ _ _ _ (hr.keep (below_of hB (by repeat (first | exact below_refl _ | apply below_alloc | apply below_drew | apply below_drewN))))).mono ?_; rintro e w1 ⟨rfl, hb⟩; obtain ⟨hc, hf⟩ := bcell hb; have hz := hb.size; (try simp at hz); have hB := below_of (below_of hB (by repeat (first | exact below_refl _ | apply below_alloc | apply below_drew | apply below_drewN))) hb; have h0 := (h0.keep (by repeat (first | exact below_refl _ | apply below_alloc | apply below_drew | apply below_drewN))).keep hb; have h0z := h0.lt; have h0c0 := h0.cell 0 _ rfl; have h0c1 := h0.cell 1 _ rfl; have h1 := (h1.keep (by repeat (first | exact below_refl _ | apply below_alloc | apply below_drew | apply below_drewN))).keep hb; have h1z := h1.lt; have h1c0 := h1.cell 0 _ rfl; have h1f0 := h1.frozen 0; have h1c1 := h1.cell 1 _ rfl; have h1f1 := h1.frozen 1; have h1c2 := h1.cell 2 _ rfl; have h1f2 := h1.frozen 2; have h1c3 := h1.cell 3 _ rfl; have h1f3 := h1.frozen 3)
  rcases firstGo_find (fun g : Fld => g.id == id) l 0 with ⟨e1, e2⟩ | ⟨j, e1, hj, e2⟩
  · have e3 : firstR (fun g : Fld => g.id == id) l = -1 := e1
    rw [e3]
    have hg : getF l id = Fld.z := by unfold getF findF; rw [e2]; rfl
    have hh : hasF l id = false := by unfold hasF findF; rw [e2]; rfl
    go_wp2
    exact end_cell_tmp (t := 53) rfl rfl rfl ((((h1.set 0 _).set 1 _).set 2 _).set 3 _) Try.underlying53 rfl rfl rfl ⟨by rw [hg, hh]; rfl, below_set (below_set (below_set (below_set hB (by first | omega | (simp; done) | (simp; omega)) _) (by first | omega | (simp; done) | (simp; omega)) _) (by first | omega | (simp; done) | (simp; omega)) _) (by first | omega | (simp; done) | (simp; omega)) _⟩
  · have e3 : firstR (fun g : Fld => g.id == id) l = ((j : Nat) : Int) := by unfold firstR; rw [e1]; simp
    rw [e3]
    have hg : getF l id = l[j] := by unfold getF findF; rw [e2]; rfl
    have hh : hasF l id = true := by unfold hasF findF; rw [e2]; rfl
    obtain ⟨b, o, rfl, hbw, hb, f0, f1, f2, f3⟩ := RdF.atk hr hB j hj
    have hi0 : (0 : Int) ≤ (j : Int) := by omega
    have hi1 : (j : Int) < (l.length : Int) := by omega
    go_wp2
    exact end_cell_tmp (t := 53) rfl rfl rfl ((((h1.set 0 _).set 1 _).set 2 _).set 3 _) Try.underlying53 rfl rfl rfl ⟨by rw [hg, hh]; rfl, below_set (below_set (below_set (below_set hB (by first | omega | (simp; done) | (simp; omega)) _) (by first | omega | (simp; done) | (simp; omega)) _) (by first | omega | (simp; done) | (simp; omega)) _) (by first | omega | (simp; done) | (simp; omega)) _⟩
end Go.Proofs.Ythcphdgfdkgimaa
