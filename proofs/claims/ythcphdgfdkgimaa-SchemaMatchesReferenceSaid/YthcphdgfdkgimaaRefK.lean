/- The references of fenlandref06, part K: New, After. -/
import Derived.Test.YthcphdgfdkgimaaRefJ
set_option linter.unusedSimpArgs false
set_option linter.unusedVariables false
namespace Go.Proofs.Ythcphdgfdkgimaa
open Go.RowKit
theorem RdG.atk {w wr : World} {A : Option Addr} {l : List Chg} (h : RdG w A l) (HB : Below w.heap.size w wr) (k : Nat) (hk : k < l.length) : ∃ b o, A = some ⟨b, o, none⟩ ∧ b < w.heap.size ∧ b < wr.heap.size ∧ wr.cell? ⟨b, o + k * 8, none⟩ = some (.int .i64 l[k].kind) ∧ wr.cell? ⟨b, o + k * 8 + 1, none⟩ = some (.int .i64 l[k].id) ∧ wr.cell? ⟨b, o + k * 8 + 2, none⟩ = some (.int .i64 l[k].wit) ∧ wr.cell? ⟨b, o + k * 8 + 3, none⟩ = some (.string l[k].name) ∧ wr.cell? ⟨b, o + k * 8 + 4, none⟩ = some (.string l[k].other) ∧ wr.cell? ⟨b, o + k * 8 + 5, none⟩ = some (.int .i64 l[k].ty) ∧ wr.cell? ⟨b, o + k * 8 + 6, none⟩ = some (.int .i64 l[k].par) ∧ wr.cell? ⟨b, o + k * 8 + 7, none⟩ = some (.string l[k].sep) := by
  rcases h.2 with rfl | ⟨b, o, rfl, hc⟩
  · simp at hk
  · have e := getElem_of_getD hk
    have q := fun i u hi => cell_keep HB (hc k _ i u e hi)
    have c0 := hc k _ 0 _ e rfl
    exact ⟨b, o, rfl, cell_lt c0, Nat.lt_of_lt_of_le (cell_lt c0) HB.size, q 0 _ rfl, q 1 _ rfl, q 2 _ rfl, q 3 _ rfl, q 4 _ rfl, q 5 _ rfl, q 6 _ rfl, q 7 _ rfl⟩
/-! plain: what a change does to the length, the next number and the names -/
def grows (l : List Fld) (nx : Int) (r : Int × List Fld × Int) : Prop := r.2.1.length ≤ l.length + 2 ∧ (r.1 = 0 → nx ≤ r.2.2 ∧ r.2.2 ≤ nx + 2)
theorem grows_bad (l : List Fld) (nx e : Int) (he : e ≠ 0) : grows l nx (bad e) := ⟨by simp [bad], fun h => absurd h he⟩
theorem addR_grows (l : List Fld) (nx : Int) (c : Chg) : grows l nx (addR l nx c) := by
  unfold addR; repeat' split
  all_goals first | exact grows_bad _ _ _ (by decide) | exact ⟨by simp [plusR], fun _ => ⟨by (try simp) <;> omega, by (try simp) <;> omega⟩⟩
theorem moveR_grows (l : List Fld) (nx : Int) (f : Fld) (p : Int) : grows l nx (moveR l nx f p) := by
  unfold moveR; repeat' split
  all_goals first | exact grows_bad _ _ _ (by decide) | exact ⟨by simp [withR], fun _ => ⟨by simp, by simp; omega⟩⟩
theorem oneR_grows (l : List Fld) (nx : Int) (c : Chg) : grows l nx (oneR l nx c) := by
  unfold oneR; repeat' split
  all_goals first | exact grows_bad _ _ _ (by decide) | exact moveR_grows _ _ _ _ | exact ⟨Nat.le_trans (withoutR_len _ _ _) (by omega), fun _ => ⟨by simp, by simp; omega⟩⟩ | exact ⟨by simp [withR], fun _ => ⟨by simp, by simp; omega⟩⟩
theorem splitR_grows (l : List Fld) (nx : Int) (c : Chg) : grows l nx (splitR l nx c) := by
  unfold splitR; repeat' split
  all_goals first | exact grows_bad _ _ _ (by decide) | exact ⟨by have := withoutR_len l (getF l c.id).id (getF l c.id).id; simp [plusR_len]; omega, fun _ => ⟨by (try simp) <;> omega, by (try simp) <;> omega⟩⟩
theorem joinR_grows (l : List Fld) (nx : Int) (c : Chg) : grows l nx (joinR l nx c) := by
  unfold joinR; repeat' split
  all_goals first | exact grows_bad _ _ _ (by decide) | exact ⟨by have := withoutR_len l (getF l c.id).id (getF l c.wit).id; simp [plusR_len]; omega, fun _ => ⟨by (try simp) <;> omega, by (try simp) <;> omega⟩⟩
theorem applyR_grows (l : List Fld) (nx : Int) (c : Chg) : grows l nx (applyR l nx c) := by
  unfold applyR; repeat' split
  all_goals first | exact addR_grows _ _ _ | exact oneR_grows _ _ _ | exact splitR_grows _ _ _ | exact joinR_grows _ _ _ | exact grows_bad _ _ _ (by decide)
theorem fsok_plus {l : List Fld} {nx : Int} {f : Fld} (h : fsok l) (hf : f.name.size ≤ 9223372036854775807) : fsok (plusR l nx f) := by
  intro g hg; rw [plusR, List.mem_append] at hg
  rcases hg with hg | hg
  · exact h g hg
  · obtain rfl := List.mem_singleton.1 hg; exact hf
theorem fsok_without {l : List Fld} {x y : Int} (h : fsok l) : fsok (withoutR l x y) := fun g hg => h g (List.mem_filter.1 hg).1
theorem fsok_with {l : List Fld} {f : Fld} (h : fsok l) (hf : f.name.size ≤ 9223372036854775807) : fsok (withR l f) := by
  intro g hg; rw [withR, List.mem_map] at hg
  obtain ⟨g', hg', rfl⟩ := hg
  split
  · exact hf
  · exact h _ hg'
theorem fsok_bad (e : Int) : fsok (bad e).2.1 := fun g hg => by simp [bad] at hg
theorem applyR_fsok {l : List Fld} {nx : Int} {c : Chg} (h : fsok l) (hc : c.ok) : fsok (applyR l nx c).2.1 := by
  obtain ⟨h1, h2, h3⟩ := hc
  have hg := fun id => getF_size h id
  unfold applyR; repeat' split
  all_goals first
    | exact fsok_bad _
    | (unfold addR; repeat' split
       all_goals first | exact fsok_bad _ | exact fsok_plus h h1)
    | (unfold splitR; repeat' split
       all_goals first | exact fsok_bad _ | exact fsok_plus (fsok_plus (fsok_without h) h1) h2)
    | (unfold joinR; repeat' split
       all_goals first | exact fsok_bad _ | exact fsok_plus (fsok_without h) h1)
    | (unfold oneR; repeat' split
       all_goals first
         | exact fsok_bad _
         | exact fsok_without h
         | exact fsok_with h h1
         | exact fsok_with h (hg _)
         | (unfold moveR; repeat' split
            all_goals first | exact fsok_bad _ | exact fsok_with h (hg _)))
def afterGo : List Chg → List Fld × Int → Nat → (List Fld × Int) × Nat × Int
  | [], s, i => (s, i, 0)
  | c :: r, s, i => if (applyR s.1 s.2 c).1 != 0 then (s, i, (applyR s.1 s.2 c).1) else afterGo r (applyR s.1 s.2 c).2 (i + 1)
def afterR (cs : List Chg) : (List Fld × Int) × Nat × Int := afterGo cs ([], 1) 0
theorem afterGo_step {cs : List Chg} {k : Nat} (hk : k < cs.length) (s : List Fld × Int) : afterGo (cs.drop k) s k = if (applyR s.1 s.2 cs[k]).1 != 0 then (s, k, (applyR s.1 s.2 cs[k]).1) else afterGo (cs.drop (k + 1)) (applyR s.1 s.2 cs[k]).2 (k + 1) := by
  rw [List.drop_eq_getElem_cons hk]; rfl
set_option maxHeartbeats 400000 in
theorem rNew (w : World) : Calls Try.prog 27 #[] w fun e w' => e = .returned (.agg #[.slice none 0 0, .int .i64 1]) ∧ Below w.heap.size w w' := by
  go_enter Try.func27, Try.ntmps27
  go_wp2
  exact end_cell (t := 31) rfl rfl (box_new _ [.slice none 0 0, .int .i64 1] _ rfl) Try.underlying31 rfl rfl rfl ⟨rfl, (by repeat (first | exact below_refl _ | apply below_alloc | apply below_drew | apply below_drewN))⟩
end Go.Proofs.Ythcphdgfdkgimaa
