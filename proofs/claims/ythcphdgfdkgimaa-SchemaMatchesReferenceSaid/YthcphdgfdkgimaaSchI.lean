/- Package schema, part I: remove. -/
import Derived.Test.YthcphdgfdkgimaaSchH
set_option linter.unusedSimpArgs false
set_option linter.unusedVariables false
namespace Go.Proofs.Ythcphdgfdkgimaa
open Go.RowKit
set_option maxRecDepth 100000 in
set_option maxHeartbeats 1600000 in
theorem sRemove (b base : Nat) (v : Value) (l : List Fld) (nx id : Int) (w : World) (hst : StV w b base v l nx) (hbb : base ≤ b) (hl : l.length ≤ 1000) :
    Calls Try.prog 61 #[.pointer (some ⟨b, 0, none⟩), .int .i64 id] w (RetM w b base v (l.filter (keepP id)) nx (.tuple #[])) := by
  obtain ⟨hb0, HO⟩ := hst
  obtain ⟨Av, cv, rfl, hcv⟩ := HO.slice
  have hbw := hb0.lt
  go_enter Try.func61, Try.ntmps61
  go_upto_region 1 with (fail)
  refine wp_letter ?_
  intro W hW
  have hq : Box W w.heap.size [.int .i64 id] 3 := by subst hW; exact box_new _ _ _ rfl
  have hB : Below w.heap.size w W := by subst hW; exact (by repeat (first | exact below_refl _ | apply below_alloc | apply below_drew | apply below_drewN))
  clear hW
  have hb1 := hb0.keep hB
  have HO1 := HO.kept hB
  have hb1z := hb1.lt; have hb1c0 := hb1.cell 0 _ rfl; have hb1f0 := hb1.frozen 0; have hb1c1 := hb1.cell 1 _ rfl; have hb1f1 := hb1.frozen 1
  go_wp2_with (go_at_call 73; refine (sDelete base w.heap.size id l _ _ HO1 hq hl).mono ?_; rintro e w1 ⟨v', rfl, HO2, hg2, hblk⟩; obtain ⟨A2, c2, rfl, hc2⟩ := HO2.slice; have k0 := hb1.grown hg2 (HO1.ne_type hb1 (by decide)); have k0z := k0.lt; have k0c0 := k0.cell 0 _ rfl; have k0f0 := k0.frozen 0; have k0c1 := k0.cell 1 _ rfl; have k0f1 := k0.frozen 1)
  have hne := HO2.ne_type k0 (by decide)
  have hB1 : Below base w w1 := (hB.mono (by omega)).grown hg2 (by have := hB.size; omega) HO1.base
  refine bodyPost_end (results_none rfl _ _ _) rfl ?_
  refine ⟨rfl, _, ⟨k0.set 0 _, HO2.far hne _⟩, ⟨fun k hk h1 h2 => ?_, fun k hk => ?_, ?_⟩, hB1.setCell hbb _⟩
  · rw [Below.heap_setCell _ _ _ _ h1, hg2.block k (Nat.lt_of_lt_of_le hk hB.size) h2]
    exact hB.block k hk
  · exact .inl (hblk.symm.trans hk)
  · have := hg2.size; have := hB.size; simp; omega
end Go.Proofs.Ythcphdgfdkgimaa
