/- Package schema, part E: the methods that read, and plus. -/
import Derived.Test.YthcphdgfdkgimaaSchD
set_option linter.unusedSimpArgs false
set_option linter.unusedVariables false
namespace Go.Proofs.Ythcphdgfdkgimaa
open Go.RowKit
set_option maxRecDepth 100000 in
set_option maxHeartbeats 800000 in
theorem sTaken (b : Nat) (A : Option Addr) (c : Nat) (l : List Fld) (nx par : Int) (nm : ByteArray) (Aw : Option Addr) (cw : Nat) (ws : List Int) (w : World) (hb0 : Box w b [.slice A l.length c, .int .i64 nx] 75) (hr : RdF w A l) (hw : RdI w Aw ws) (hs : nm.size ≤ 9223372036854775807) :
    Calls Try.prog 56 #[.pointer (some ⟨b, 0, none⟩), .int .i64 par, .string nm, .slice Aw ws.length cw] w fun e w' => e = .returned (.bool (!nameOk nm || l.any (takenQ nm par ws))) ∧ Below w.heap.size w w' := by
  go_enter Try.func56, Try.ntmps56
  go_upto_region 1 with (fail)
  refine wp_letter ?_
  intro W hW
  have h5 : Box W w.heap.size [.int .i64 par] 3 := by subst hW; exact ((box_new _ _ _ rfl).alloc _).alloc _
  have h6 : Box W (w.heap.size + 1) [.string nm] 9 := by subst hW; exact (box_new _ _ _ (by simp)).alloc _
  have h7 : Box W (w.heap.size + 1 + 1) [.slice Aw ws.length cw] 50 := by subst hW; exact box_new _ _ _ (by simp)
  have hB : Below w.heap.size w W := by subst hW; exact (by repeat (first | exact below_refl _ | apply below_alloc | apply below_drew | apply below_drewN))
  clear hW
  have hb1 := hb0.keep hB
  have h5z := h5.lt; have h5c0 := h5.cell 0 _ rfl; have h6z := h6.lt; have h6c0 := h6.cell 0 _ rfl; have h7z := h7.lt; have h7c0 := h7.cell 0 _ rfl; have hb1z := hb1.lt; have hb1c0 := hb1.cell 0 _ rfl; have hb1c1 := hb1.cell 1 _ rfl
  go_wp2_with (first
    | (go_at_call 49; refine (sNamed _ _ hs).mono ?_; rintro e w1 ⟨rfl, hb⟩; obtain ⟨hc, hf⟩ := bcell hb; have hz := hb.size; (try simp at hz); have hB := below_of (below_of hB (by repeat (first | exact below_refl _ | apply below_alloc | apply below_drew | apply below_drewN))) hb; have h5 := (h5.keep (by repeat (first | exact below_refl _ | apply below_alloc | apply below_drew | apply below_drewN))).keep hb; have h5z := h5.lt; have h5c0 := h5.cell 0 _ rfl; have h6 := (h6.keep (by repeat (first | exact below_refl _ | apply below_alloc | apply below_drew | apply below_drewN))).keep hb; have h6z := h6.lt; have h6c0 := h6.cell 0 _ rfl; have h7 := (h7.keep (by repeat (first | exact below_refl _ | apply below_alloc | apply below_drew | apply below_drewN))).keep hb; have h7z := h7.lt; have h7c0 := h7.cell 0 _ rfl; have hb1 := (hb1.keep (by repeat (first | exact below_refl _ | apply below_alloc | apply below_drew | apply below_drewN))).keep hb; have hb1z := hb1.lt; have hb1c0 := hb1.cell 0 _ rfl; have hb1c1 := hb1.cell 1 _ rfl)
    | (go_at_call 59; refine (sTakenCF _ _ l w.heap.size (w.heap.size + 1) (w.heap.size + 1 + 1) par nm Aw cw ws _ (hr.keep hB) h5c0 h6c0 h7c0 (hw.keep hB)).mono ?_; rintro e w1 ⟨rfl, hb⟩; obtain ⟨hc, hf⟩ := bcell hb; have hz := hb.size; (try simp at hz); have hB := below_of (below_of hB (by repeat (first | exact below_refl _ | apply below_alloc | apply below_drew | apply below_drewN))) hb; have h5 := (h5.keep (by repeat (first | exact below_refl _ | apply below_alloc | apply below_drew | apply below_drewN))).keep hb; have h5z := h5.lt; have h5c0 := h5.cell 0 _ rfl))
  all_goals exact end_bool rfl rfl rfl (by first | rfl | simp [*]) ⟨rfl, hB⟩
set_option maxHeartbeats 800000 in
theorem sFull (b : Nat) (A : Option Addr) (c : Nat) (l : List Fld) (nx n : Int) (w : World) (hb0 : Box w b [.slice A l.length c, .int .i64 nx] 75) (hn : 0 ≤ n ∧ n ≤ 10) :
    Calls Try.prog 57 #[.pointer (some ⟨b, 0, none⟩), .int .i64 n] w fun e w' => e = .returned (.bool (decide ((l.length : Int) ≥ 64) || decide (nx > 1073741824 - n))) ∧ w' = w := by
  have hb0z := hb0.lt; have hb0c0 := hb0.cell 0 _ rfl; have hb0c1 := hb0.cell 1 _ rfl
  go_enter Try.func57, Try.ntmps57
  go_wp2
  all_goals exact end_bool rfl rfl rfl (by first | rfl | simp [*]) ⟨rfl, rfl⟩
end Go.Proofs.Ythcphdgfdkgimaa
