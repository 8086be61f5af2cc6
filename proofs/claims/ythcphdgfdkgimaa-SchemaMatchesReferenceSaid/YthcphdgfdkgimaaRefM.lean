/- The references of fenlandref06, part M: name. -/
import Derived.Test.YthcphdgfdkgimaaRefL
set_option linter.unusedSimpArgs false
set_option linter.unusedVariables false
namespace Go.Proofs.Ythcphdgfdkgimaa
open Go.RowKit
def lettr : Nat → ByteArray
  | 0 => ⟨#[97]⟩
  | 1 => ⟨#[98]⟩
  | 2 => ⟨#[99]⟩
  | 3 => ⟨#[100]⟩
  | 4 => ⟨#[101]⟩
  | _ => ⟨#[102]⟩
def nameR (s : ByteArray) : ByteArray := if nameOk s = false then lettr (s.size % 6) else if (s.size : Int) ≤ 4 then s else lettr (s.size % 6)
set_option maxRecDepth 100000 in
set_option maxHeartbeats 1600000 in
theorem rname (s : ByteArray) (w : World) (hs : s.size ≤ 9223372036854775807) : Calls Try.prog 32 #[.string s] w fun e w' => e = .returned (.string (nameR s)) ∧ Below w.heap.size w w' := by
  have hm : ∀ j : Nat, s.size % 6 = j → Int.tmod (s.size : Int) 6 = (j : Int) := by
    intro j hj
    rw [Int.tmod_eq_emod_of_nonneg (by omega)]; omega
  have h6 : s.size % 6 < 6 := Nat.mod_lt _ (by omega)
  go_enter Try.func32, Try.ntmps32
  go_upto_region 4 with (go_at_call 55; refine (rName _ _ hs).mono ?_; rintro e w1 ⟨rfl, hww⟩; rw [hww])
  · exact end_tmp rfl rfl rfl ⟨by unfold nameR; simp [*], below_refl _⟩
  all_goals
    have hv : Hid (nameR s = lettr (s.size % 6)) := Lib.hid (by unfold nameR; cases hn : nameOk s; (exact if_pos rfl); refine (if_neg (by decide)).trans ?_; first | exact absurd hn (by assumption) | exact if_neg (by omega))
    rcases Nat.lt_or_ge (s.size % 6) 1 with hc | hc
    · have hj : s.size % 6 = 0 := by omega
      have hmj := hm 0 hj
      go_wp2
      exact end_tmp rfl rfl rfl ⟨by rw [hv.out, hj]; rfl, (by repeat (first | exact below_refl _ | apply below_alloc | apply below_drew | apply below_drewN))⟩
    rcases Nat.lt_or_ge (s.size % 6) 2 with hc | hc
    · have hj : s.size % 6 = 1 := by omega
      have hmj := hm 1 hj
      go_wp2
      exact end_tmp rfl rfl rfl ⟨by rw [hv.out, hj]; rfl, (by repeat (first | exact below_refl _ | apply below_alloc | apply below_drew | apply below_drewN))⟩
    rcases Nat.lt_or_ge (s.size % 6) 3 with hc | hc
    · have hj : s.size % 6 = 2 := by omega
      have hmj := hm 2 hj
      go_wp2
      exact end_tmp rfl rfl rfl ⟨by rw [hv.out, hj]; rfl, (by repeat (first | exact below_refl _ | apply below_alloc | apply below_drew | apply below_drewN))⟩
    rcases Nat.lt_or_ge (s.size % 6) 4 with hc | hc
    · have hj : s.size % 6 = 3 := by omega
      have hmj := hm 3 hj
      go_wp2
      exact end_tmp rfl rfl rfl ⟨by rw [hv.out, hj]; rfl, (by repeat (first | exact below_refl _ | apply below_alloc | apply below_drew | apply below_drewN))⟩
    rcases Nat.lt_or_ge (s.size % 6) 5 with hc | hc
    · have hj : s.size % 6 = 4 := by omega
      have hmj := hm 4 hj
      go_wp2
      exact end_tmp rfl rfl rfl ⟨by rw [hv.out, hj]; rfl, (by repeat (first | exact below_refl _ | apply below_alloc | apply below_drew | apply below_drewN))⟩
    · have hj : s.size % 6 = 5 := by omega
      have hmj := hm 5 hj
      go_wp2
      exact end_tmp rfl rfl rfl ⟨by rw [hv.out, hj]; rfl, (by repeat (first | exact below_refl _ | apply below_alloc | apply below_drew | apply below_drewN))⟩
end Go.Proofs.Ythcphdgfdkgimaa
