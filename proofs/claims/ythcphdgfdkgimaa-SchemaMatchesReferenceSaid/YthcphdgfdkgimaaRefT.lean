/- The references of fenlandref06: Same, at equal schemas; Leaves, Path, Find. -/
import Derived.Test.YthcphdgfdkgimaaSchW
set_option linter.unusedSimpArgs false
set_option linter.unusedVariables false
namespace Go.Proofs.Ythcphdgfdkgimaa
open Go.RowKit
set_option maxRecDepth 100000 in
set_option maxHeartbeats 1600000 in
theorem rSame (A : Option Addr) (c : Nat) (l : List Fld) (nx : Int) (A2 : Option Addr) (c2 : Nat) (w : World) (hr : RdF w A l) (hr2 : RdF w A2 l) :
    Calls Try.prog 15 #[.agg #[.slice A l.length c, .int .i64 nx], .agg #[.slice A2 l.length c2, .int .i64 nx]] w fun e w' => e = .returned (.bool true) ∧ Below w.heap.size w w' := by
  have hl1 := hr.1
  go_enter Try.func15, Try.ntmps15
  go_upto_region 1 with (fail)
  refine wp_letter ?_
  intro W hW
  have h2 : Box W w.heap.size [.slice A l.length c, .int .i64 nx] 31 := by subst hW; exact (box_new _ _ _ rfl).alloc _
  have h3 : Box W (w.heap.size + 1) [.slice A2 l.length c2, .int .i64 nx] 31 := by subst hW; exact box_new _ _ _ (by simp)
  have hB : Below w.heap.size w W := by subst hW; exact (by repeat (first | exact below_refl _ | apply below_alloc | apply below_drew | apply below_drewN))
  clear hW
  have h2z := h2.lt; have h2c0 := h2.cell 0 _ rfl; have h2c1 := h2.cell 1 _ rfl; have h3z := h3.lt; have h3c0 := h3.cell 0 _ rfl; have h3c1 := h3.cell 1 _ rfl
  go_wp2
  go_loopw [5] (fun i wr => ∃ (k : Nat), i = .int .i64 k ∧ k ≤ l.length ∧ Below W.heap.size W wr) (fun i _ => l.length - (intOf i).toNat)
  case atStart => exact ⟨0, rfl, by omega, (by repeat (first | exact below_refl _ | apply below_alloc | apply below_drew | apply below_drewN))⟩
  case round =>
    obtain ⟨k, rfl, hk, HB⟩ := hrel
    have k2 := h2.keep HB
    have k3 := h3.keep HB
    have hBr := below_of hB HB
    clear h2c0 h2c1 h3c0 h3c1
    have k2z := k2.lt; have k2c0 := k2.cell 0 _ rfl; have k2c1 := k2.cell 1 _ rfl; have k3z := k3.lt; have k3c0 := k3.cell 0 _ rfl; have k3c1 := k3.cell 1 _ rfl
    by_cases hlt : k < l.length
    · obtain ⟨b, o, rfl, hbw, hb, f0, f1, f2, f3⟩ := RdF.atk hr hBr k hlt
      obtain ⟨b', o', rfl, hbw', hb', g0, g1, g2, g3⟩ := RdF.atk hr2 hBr k hlt
      have hi0 : (0 : Int) ≤ (k : Int) := by omega
      have hi1 : (k : Int) < (l.length : Int) := by omega
      go_upto_region 6 with (fail)
      refine region_below (by kernel_rfl) (by kernel_rfl) ?_; (repeat (first | (refine quiet_on (v := ?_) (by rfl) ?_ ?_; rotate_left; (focus (intro w' hS; have s0 := cell_keep hS k2c0; have s1 := cell_keep hS k3c0; have s2 := cell_keep hS f0; have s3 := cell_keep hS f1; have s4 := cell_keep hS f2; have s5 := cell_keep hS f3; have s6 := cell_keep hS g0; have s7 := cell_keep hS g1; have s8 := cell_keep hS g2; have s9 := cell_keep hS g3; go_simp; first | exact rfl | (fail))); simp only [Act.put, List.setIfInBounds_toArray, List.set_cons_zero, List.set_cons_succ]) | (refine quiet_off (by rfl) ?_; simp only [Act.put, List.setIfInBounds_toArray, List.set_cons_zero, List.set_cons_succ]))); refine wpQuiet_nil ?_; intro wq hq; try dsimp only
      go_wp2
      go_roundw
      case rel => exact ⟨k + 1, by go_num, by omega, below_of HB hq⟩
      case measure => simp [intOf]; omega
    · go_wp2
      exact end_tmp rfl rfl rfl ⟨rfl, hBr⟩
def leavesR (l : List Fld) : List Int := (l.filter (fun f : Fld => f.ty != 6)).map (·.id)
def RetI (w0 : World) (l : List Int) (e : Ending) (w' : World) : Prop := ∃ A c, e = .returned (.slice A l.length c) ∧ l.length ≤ c ∧ RdI w' A l ∧ Below w0.heap.size w0 w'
theorem leaves_step {l : List Fld} {k : Nat} (h : k < l.length) : leavesR (l.take (k + 1)) = leavesR (l.take k) ++ (if (l[k].ty != 6) = true then [l[k].id] else []) := by
  unfold leavesR; rw [filter_take_succ _ h, List.map_append]; congr 1; split <;> rfl
theorem leaves_len (l : List Fld) (k : Nat) : (leavesR (l.take k)).length ≤ l.length := by
  unfold leavesR; rw [List.length_map]; exact Nat.le_trans (List.length_filter_le _ _) (by rw [List.length_take]; omega)
set_option maxRecDepth 100000 in
set_option maxHeartbeats 1600000 in
theorem sLeaves (A : Option Addr) (c : Nat) (l : List Fld) (nx : Int) (w : World) (hr : RdF w A l) (hl : l.length ≤ 900) :
    Calls Try.prog 17 #[.agg #[.slice A l.length c, .int .i64 nx]] w (RetI w (leavesR l)) := by
  have hl1 := hr.1
  go_enter Try.func17, Try.ntmps17
  go_wp2
  go_loopw [3, 9] (fun q i wr => ∃ (k : Nat), i = .int .i64 k ∧ k ≤ l.length ∧ Below w.heap.size w wr ∧ Own encI 1 wr w.heap.size 3 q (leavesR (l.take k))) (fun _ i _ => l.length - (intOf i).toNat)
  case atStart => exact ⟨0, rfl, by omega, (by repeat (first | exact below_refl _ | apply below_alloc | apply below_drew | apply below_drewN)), Own.none _ _ _ _ _⟩
  case round =>
    obtain ⟨k, rfl, hk, HB, HO⟩ := hrel
    obtain ⟨Av, cv, rfl, hcv⟩ := HO.slice
    have hll := leaves_len l k
    by_cases hlt : k < l.length
    · obtain ⟨b, o, rfl, hbw, hb, f0, f1, f2, f3⟩ := RdF.atk hr HB k hlt
      have hi0 : (0 : Int) ≤ (k : Int) := by omega
      have hi1 : (k : Int) < (l.length : Int) := by omega
      have hst := Lib.hid (leaves_step hlt)
      go_upto_region 5 with (fail)
      refine wp_letter ?_
      intro W5 hW
      have p5 : Box W5 wr.heap.size l[k].enc 53 := by subst hW; exact box_new _ _ _ rfl
      have hB5 : Below wr.heap.size wr W5 := by subst hW; exact (by repeat (first | exact below_refl _ | apply below_alloc | apply below_drew | apply below_drewN))
      clear hW
      have HO5 := HO.kept hB5
      have hBs := HB.size
      have hBs5 := hB5.size
      have hBw := below_of HB hB5
      clear f0 f1 f2 f3
      have p5z := p5.lt; have p5c0 := p5.cell 0 _ rfl; have p5c1 := p5.cell 1 _ rfl; have p5c2 := p5.cell 2 _ rfl; have p5c3 := p5.cell 3 _ rfl
      cases ht : (l[k].ty != 6)
      · go_wp2
        go_roundw
        case rel => exact ⟨k + 1, by go_num, by omega, hBw, by rw [hst.out, ht]; simpa using HO5⟩
        case measure => simp [intOf]; omega
      · go_wp2_with (at_builtin; refine wpl_pushb l[k].id (enc := encI) (g := W5.heap.size) lenI rfl rfl _ _ 50 3 _ 8 rfl Try.underlying50 infoI rfl (by omega) (by omega) (by rfl) (by rfl) (box_new _ _ _ (by simp)) (HO5.kept (below_alloc (below_refl _) _)) (below_alloc hBw _) (by first | omega | (simp; done) | (simp; omega)) (by first | omega | (simp; done) | (simp; omega)) (by first | omega | (simp; done) | (simp; omega)) ?_; intro A1 c1 w9 HO1 HB1 hg1)
        go_roundw
        case rel => exact ⟨k + 1, by go_num, by omega, HB1, by rw [hst.out, ht]; simpa using HO1⟩
        case measure => simp [intOf]; omega
    · obtain rfl : k = l.length := by omega
      rw [List.take_length] at HO
      obtain ⟨A2, c2, he, hc2, hr2, hf2⟩ := HO.rd lenI (by rw [List.take_length] at hll; omega)
      cases he
      rw [List.take_length]
      go_wp2
      exact end_tmp rfl rfl rfl ⟨_, _, rfl, hc2, hr2, HB⟩
set_option maxRecDepth 100000 in
set_option maxHeartbeats 1600000 in
theorem rLeaves (A : Option Addr) (c : Nat) (l : List Fld) (nx : Int) (w : World) (hr : RdF w A l) (hl : l.length ≤ 900) :
    Calls Try.prog 18 #[.agg #[.slice A l.length c, .int .i64 nx]] w (RetI w (leavesR l)) := by
  have hl1 := hr.1
  go_enter Try.func18, Try.ntmps18
  go_wp2
  go_loopw [3, 4] (fun q i wr => ∃ (k : Nat), i = .int .i64 k ∧ k ≤ l.length ∧ Below w.heap.size w wr ∧ Box wr w.heap.size [.slice A l.length c, .int .i64 nx] 31 ∧ Own encI 1 wr (w.heap.size + 1) 3 q (leavesR (l.take k))) (fun _ i _ => l.length - (intOf i).toNat)
  case atStart => exact ⟨0, rfl, by omega, (by repeat (first | exact below_refl _ | apply below_alloc | apply below_drew | apply below_drewN)), (box_new _ _ _ rfl).alloc _, Own.lit _ _ _ _ (by simp) (by simp)⟩
  case round =>
    obtain ⟨k, rfl, hk, HB, k0, HO⟩ := hrel
    obtain ⟨Av, cv, rfl, hcv⟩ := HO.slice
    have hll := leaves_len l k
    have k0z := k0.lt; have k0c0 := k0.cell 0 _ rfl; have k0c1 := k0.cell 1 _ rfl
    by_cases hlt : k < l.length
    · obtain ⟨b, o, rfl, hbw, hb, f0, f1, f2, f3⟩ := RdF.atk hr HB k hlt
      have hi0 : (0 : Int) ≤ (k : Int) := by omega
      have hi1 : (k : Int) < (l.length : Int) := by omega
      have hst := Lib.hid (leaves_step hlt)
      cases ht : (l[k].ty != 6)
      · go_wp2
        go_roundw
        case rel => exact ⟨k + 1, by go_num, by omega, HB, k0, by rw [hst.out, ht]; simpa using HO⟩
        case measure => simp [intOf]; omega
      · go_wp2_with (at_builtin; refine wpl_pushb l[k].id (enc := encI) (g := wr.heap.size) lenI rfl rfl _ _ 50 3 _ 8 rfl Try.underlying50 infoI rfl (by omega) (by omega) (by rfl) (by rfl) (box_new _ _ _ (by simp)) (HO.kept (below_alloc (below_refl _) _)) (below_alloc HB _) (by first | omega | (simp; done) | (simp; omega)) (by first | omega | (simp; done) | (simp; omega)) (by first | omega | (simp; done) | (simp; omega)) ?_; intro A1 c1 w9 HO1 HB1 hg1)
        go_roundw
        case rel => exact ⟨k + 1, by go_num, by omega, HB1, (k0.alloc _).grown hg1 (HO.ne (by omega)), by rw [hst.out, ht]; simpa using HO1⟩
        case measure => simp [intOf]; omega
    · obtain rfl : k = l.length := by omega
      rw [List.take_length] at HO
      obtain ⟨A2, c2, he, hc2, hr2, hf2⟩ := HO.rd lenI (by rw [List.take_length] at hll; omega)
      cases he
      rw [List.take_length]
      go_wp2
      exact end_tmp rfl rfl rfl ⟨_, _, rfl, hc2, hr2, HB⟩
end Go.Proofs.Ythcphdgfdkgimaa
