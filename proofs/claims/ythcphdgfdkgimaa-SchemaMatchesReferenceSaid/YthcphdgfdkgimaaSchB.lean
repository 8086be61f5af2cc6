/- Package schema, part B: group, named, separates. -/
import Derived.Test.YthcphdgfdkgimaaSchA
import Derived.Lib.ConvBytes
set_option linter.unusedSimpArgs false
set_option linter.unusedVariables false
namespace Go.Proofs.Ythcphdgfdkgimaa
open Go.RowKit
set_option maxHeartbeats 400000 in
theorem sGroup (A : Option Addr) (c : Nat) (l : List Fld) (nx id : Int) (w : World) (hr : RdF w A l) :
    Calls Try.prog 50 #[.agg #[.slice A l.length c, .int .i64 nx], .int .i64 id] w fun e w' => e = .returned (.bool (grp l id)) ∧ Below w.heap.size w w' := by
  go_enter Try.func50, Try.ntmps50
  go_wp2_with (go_at_call 19; refine (sField _ _ _ _ _ _ (hr.keep (below_alloc (below_refl _) _))).mono ?_; rintro e w1 ⟨rfl, hb⟩; obtain ⟨hc, hf⟩ := bcell hb; have hz := hb.size; simp at hz)
  all_goals exact end_bool rfl rfl rfl (by simp_all [grp]) ⟨rfl, below_alloc (below_of (below_alloc (below_refl _) _) hb) _⟩
theorem em_size (s : ByteArray) : s.toList.isEmpty = decide (s.size = 0) := by
  rw [ByteArray.toList_eq]
  obtain ⟨⟨l⟩⟩ := s
  cases l <;> simp [ByteArray.size]
theorem sep_eq (s : ByteArray) : (!s.toList.isEmpty && decide ((s.size : Int) ≤ 16)) = sepOk s := by
  rw [em_size, Bool.eq_iff_iff]; unfold sepOk; simp only [Bool.and_eq_true, Bool.not_eq_true', decide_eq_false_iff_not, decide_eq_true_eq]; omega
set_option maxHeartbeats 400000 in
theorem sSep (s : ByteArray) (w : World) (hs : s.size ≤ 9223372036854775807) : Calls Try.prog 63 #[.string s] w fun e w' => e = .returned (.bool (sepOk s)) ∧ w' = w := by
  go_enter Try.func63, Try.ntmps63
  go_wp2
  all_goals first
    | exact end_bool rfl rfl rfl (sep_eq s) ⟨rfl, rfl⟩
    | exact end_bool rfl rfl rfl (by have h := sep_eq s; simp_all) ⟨rfl, rfl⟩
theorem below_bytes (w : World) (e : TypeId) (s : ByteArray) : Below w.heap.size w (Lib.bytesWorld w e s) := ⟨rfl, rfl, rfl, by rw [Lib.bytesWorld_size]; omega, fun b hb => Lib.bytesWorld_at_old w e s b hb⟩
set_option maxRecDepth 100000 in
set_option maxHeartbeats 400000 in
theorem sNamed (s : ByteArray) (w : World) (hs : s.size ≤ 9223372036854775807) : Calls Try.prog 49 #[.string s] w fun e w' => e = .returned (.bool (nameOk s)) ∧ Below w.heap.size w w' := by
  have kc := fun (w : World) => Lib.run_convert_string_bytes (P := Try.prog) w 9 98 5 s Try.underlying9 Try.underlying98 Try.underlying5
  go_enter Try.func49, Try.ntmps49
  go_wp2
  refine wp_letter ?_
  intro W hW
  have hB : Below w.heap.size w W := by rw [hW]; exact below_bytes w _ s
  have hcells : Hid (∀ j (h : j < s.size), W.cell? ⟨w.heap.size, j, none⟩ = some (.int .u8 (s[j]).toNat)) := by
    intro j h
    rw [hW, Lib.bytesWorld_cell w _ s j h]
    congr 3
    rw [List.getD_eq_getElem?_getD, List.getElem?_eq_getElem (by simpa using h)]; rfl
  have hz : w.heap.size < W.heap.size := by rw [hW, Lib.bytesWorld_size]; omega
  clear hW
  go_loop [8] (fun i => ∃ k : Nat, k ≤ s.size ∧ i = .int .i64 k ∧ Hid (∀ j (h : j < s.size), j < k → okc s[j] = true)) (fun i => s.size - (intOf i).toNat)
  case atStart => exact ⟨0, Nat.zero_le _, rfl, fun j _ hj => absurd hj (by omega)⟩
  case round =>
    obtain ⟨k, hk, rfl, hn⟩ := hrel
    by_cases hlt : k < s.size
    · have c0 := hcells.out k hlt
      have hi0 : (0 : Int) ≤ (k : Int) := by omega
      have hi1 : (k : Int) < (s.size : Int) := by omega
      go_wp2
      all_goals (try simp only [Bool.not_eq_true', decide_eq_false_iff_not, Bool.not_eq_false', decide_eq_true_eq, beq_iff_eq, beq_eq_false_iff_ne] at *)
      all_goals first
        | exact end_bool rfl rfl rfl (by simp [nameOk, all_not hlt (okc_no (by omega))]) ⟨rfl, hB⟩
        | (go_round
           case rel => exact ⟨k + 1, by omega, by go_num, upto_step hn.out (fun _ => okc_yes (by omega))⟩
           case measure => simp [intOf]; omega)
    · have ha := all_at (s := s) (p := okc) (fun j h => hn.out j h (by omega))
      have h32 : (!s.toList.isEmpty && decide ((s.size : Int) ≤ 32)) = nameOk s := by
        rw [em_size, Bool.eq_iff_iff]; unfold nameOk; rw [ha]; simp only [Bool.and_eq_true, Bool.not_eq_true', decide_eq_false_iff_not, decide_eq_true_eq, true_and]; omega
      have h32 := Lib.hid h32
      go_wp2
      all_goals first
        | exact end_bool rfl rfl rfl h32.out ⟨rfl, hB⟩
        | exact end_bool rfl rfl rfl (by have h := h32.out; simp_all) ⟨rfl, hB⟩
end Go.Proofs.Ythcphdgfdkgimaa
