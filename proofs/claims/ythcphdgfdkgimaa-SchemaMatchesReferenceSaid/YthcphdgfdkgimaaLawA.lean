/- sanity of fenlandlaw06: its fixed inputs, computed. -/
import Derived.Test.YthcphdgfdkgimaaRefV
import Derived.KernelRfl
set_option linter.unusedSimpArgs false
set_option linter.unusedVariables false
namespace Go.Proofs.Ythcphdgfdkgimaa
open Go.RowKit
def kC1 : Chg := ⟨1, 0, 0, ⟨#[97]⟩, ⟨#[]⟩, 4, 0, ⟨#[]⟩⟩
def kC2 : Chg := ⟨6, 1, 0, ⟨#[98]⟩, ⟨#[99]⟩, 0, 0, ⟨#[45]⟩⟩
def kD1 : Chg := ⟨1, 0, 0, ⟨#[103]⟩, ⟨#[]⟩, 6, 0, ⟨#[]⟩⟩
def kD2 : Chg := ⟨1, 0, 0, ⟨#[120]⟩, ⟨#[]⟩, 2, 1, ⟨#[]⟩⟩
def kD3 : Chg := ⟨4, 2, 0, ⟨#[]⟩, ⟨#[]⟩, 0, 0, ⟨#[]⟩⟩
def kD4 : Chg := ⟨2, 1, 0, ⟨#[]⟩, ⟨#[]⟩, 0, 0, ⟨#[]⟩⟩
def kE1 : Chg := ⟨5, 1, 0, ⟨#[]⟩, ⟨#[]⟩, 0, 1, ⟨#[]⟩⟩
def kE2 : Chg := ⟨1, 0, 0, ⟨#[120]⟩, ⟨#[]⟩, 1, 1, ⟨#[]⟩⟩
def kA : List Fld := [⟨2, ⟨#[98]⟩, 4, 0⟩, ⟨3, ⟨#[99]⟩, 4, 0⟩]
def kG : List Fld := [⟨1, ⟨#[103]⟩, 6, 0⟩, ⟨2, ⟨#[120]⟩, 3, 1⟩]
theorem k_after1 : afterR [kC1, kC2] = ((kA, 4), 2, 0) := by
  unfold afterR
  simp [afterGo, applyR, addR, splitR, kC1, kC2, kA, grp, hasF, findF, getF, depthR, takenR, takenP, nameOk, okc, plusR, withoutR, withoutP, sepOk, ByteArray.toList_eq, ByteArray.size, bad]
theorem k_after2 : afterR [kD1, kD2, kD3, kD4] = ((kG, 3), 3, 63) := by
  unfold afterR
  simp [afterGo, applyR, addR, oneR, kD1, kD2, kD3, kD4, kG, grp, hasF, findF, getF, depthR, takenR, takenP, nameOk, okc, plusR, withR, ByteArray.toList_eq, ByteArray.size, bad]
theorem k_apply1 : applyR kG 3 kE1 = bad 63 := by
  simp [applyR, oneR, moveR, insideR, kE1, kG, grp, hasF, findF, getF, bad]
theorem k_apply2 : applyR kG 3 kE2 = bad 60 := by
  simp [applyR, addR, kE2, kG, grp, hasF, findF, getF, depthR, takenR, takenP, nameOk, okc, ByteArray.toList_eq, ByteArray.size, bad]
theorem k_path2 : pathP kG 8 2 = ⟨#[103, 46, 120]⟩ := by
  simp [pathP, kG, hasF, findF, getF, joinP, ByteArray.toList_eq]
  rfl
theorem k_path3 : pathP kG 8 3 = ⟨#[]⟩ := by
  simp [pathP, kG, hasF, findF]
theorem k_find : findR kG ⟨#[103, 46, 120]⟩ = (2, true) := by
  simp [findR, findGo, pathP, kG, hasF, findF, getF, joinP, ByteArray.toList_eq]
theorem k_fits1 : fitsR kG [⟨2, ⟨false, 1099511627776, ⟨#[]⟩⟩⟩] = true := by
  simp [fitsR, fitsGo, fit1, kG, hasF, findF, getF, validR, typeR, ByteArray.toList_eq]
theorem k_fits2 : fitsR kA [⟨2, ⟨false, 1099511627776, ⟨#[]⟩⟩⟩] = false := by
  simp [fitsR, fitsGo, fit1, kA, hasF, findF, getF, validR, typeR, ByteArray.toList_eq]
theorem k_invG : Inv kG 3 := by have h := inv_after [kD1, kD2, kD3, kD4] ([], 1) 0 inv_nil; rw [show afterGo [kD1, kD2, kD3, kD4] ([], 1) 0 = ((kG, 3), 3, 63) from k_after2] at h; exact h
theorem k_invA : Inv kA 4 := by have h := inv_after [kC1, kC2] ([], 1) 0 inv_nil; rw [show afterGo [kC1, kC2] ([], 1) 0 = ((kA, 4), 2, 0) from k_after1] at h; exact h
theorem Inv.fs {l : List Fld} {nx : Int} (h : Inv l nx) : fsok l := fun f hf => by have := (name_size (h.tr.names f hf)).2; omega
theorem Inv.ids {l : List Fld} {nx : Int} (h : Inv l nx) : ∀ f ∈ l, 1 ≤ f.id := fun f hf => (h.nums.2 f hf).1
theorem rd_box {α : Type} {enc : α → List Value} {sz : Nat} (hs : ∀ x, (enc x).length = sz) {w : World} {g : Nat} {xs : List α} {t : TypeId} (h : Box w g (xs.flatMap enc) t) (hl : xs.length ≤ 1000) : Rd enc sz w (some ⟨g, 0, none⟩) xs := by
  refine ⟨by omega, .inr ⟨g, 0, rfl, fun j x i u hj hi => ?_⟩⟩
  rw [Nat.zero_add]
  exact h.cell _ _ (flatMap_get hs xs j x i u hj hi)
set_option maxRecDepth 100000 in
set_option maxHeartbeats 1600000 in
theorem sValid1 (w : World) : Calls Try.prog 25 #[.agg #[.slice none 0 0, .int .i64 1]] w fun e w' => e = .returned (.bool true) ∧ Below w.heap.size w w' := by
  have hmm := @run_makeMap Try.prog
  go_enter Try.func25, Try.ntmps25
  go_wp2
  refine wp_loop_rounds 1 ?_; rw [rounds_succ]
  go_wp2
  exact end_tmp rfl rfl rfl ⟨rfl, (by repeat (first | exact below_refl _ | apply below_alloc | apply below_drew | apply below_drewN))⟩
set_option maxRecDepth 100000 in
set_option maxHeartbeats 1600000 in
theorem sValid0 (w : World) : Calls Try.prog 25 #[.agg #[.slice none 0 0, .int .i64 0]] w fun e w' => e = .returned (.bool false) ∧ Below w.heap.size w w' := by
  go_enter Try.func25, Try.ntmps25
  go_wp2
  exact end_tmp rfl rfl rfl ⟨rfl, (by repeat (first | exact below_refl _ | apply below_alloc | apply below_drew | apply below_drewN))⟩
theorem kAfter1 (g : Nat) (w : World) (hb : Box w g ([kC1, kC2].flatMap Chg.enc) 43) : Calls Try.prog 12 #[.slice (some ⟨g, 0, none⟩) 2 2] w fun e w' => ∃ A c, e = .returned (.tuple #[.agg #[.slice A 2 c, .int .i64 4], .int .i64 2, .int .i64 0]) ∧ RdF w' A kA ∧ Below w.heap.size w w' := by
  refine (sAfter (some ⟨g, 0, none⟩) 2 [kC1, kC2] w (rd_box Chg.len hb (by simp)) (by simp) (fun c hc => by simp at hc; rcases hc with rfl | rfl <;> exact ⟨by decide, by decide, by decide⟩)).mono ?_
  rintro e w1 ⟨A, c, rfl, _, hr, _, hB⟩
  rw [k_after1] at hr ⊢
  exact ⟨A, c, rfl, hr, hB⟩
theorem kAfter2 (g : Nat) (w : World) (hb : Box w g ([kD1, kD2, kD3, kD4].flatMap Chg.enc) 43) : Calls Try.prog 12 #[.slice (some ⟨g, 0, none⟩) 4 4] w fun e w' => ∃ A c, e = .returned (.tuple #[.agg #[.slice A 2 c, .int .i64 3], .int .i64 3, .int .i64 63]) ∧ RdF w' A kG ∧ Below w.heap.size w w' := by
  refine (sAfter (some ⟨g, 0, none⟩) 4 [kD1, kD2, kD3, kD4] w (rd_box Chg.len hb (by simp)) (by simp) (fun c hc => by simp at hc; rcases hc with rfl | rfl | rfl | rfl <;> exact ⟨by decide, by decide, by decide⟩)).mono ?_
  rintro e w1 ⟨A, c, rfl, _, hr, _, hB⟩
  rw [k_after2] at hr ⊢
  exact ⟨A, c, rfl, hr, hB⟩
theorem kApply (A : Option Addr) (c : Nat) (x : Chg) (er : Int) (w : World) (hr : RdF w A kG) (hx : applyR kG 3 x = bad er) (ho : x.ok) : Calls Try.prog 14 #[.agg #[.slice A 2 c, .int .i64 3], chgV x] w fun e w' => ∃ A' c', e = .returned (.tuple #[.agg #[.slice A' 0 c', .int .i64 0], .int .i64 er]) ∧ Below w.heap.size w w' := by
  refine (sApply A c kG 3 x w hr (by decide) (by decide) k_invG.nums ho k_invG.fs).mono ?_
  rintro e w1 ⟨A', c', rfl, _, _, _, hB⟩
  rw [hx]
  exact ⟨A', c', rfl, hB⟩
theorem kFind (A : Option Addr) (c : Nat) (w : World) (hr : RdF w A kG) : Calls Try.prog 21 #[.agg #[.slice A 2 c, .int .i64 3], .string ⟨#[103, 46, 120]⟩] w fun e w' => e = .returned (.tuple #[.int .i64 2, .bool true]) ∧ Below w.heap.size w w' := by
  refine (sFind A c kG 3 k_invG.tr.names (chain_all k_invG) _ w hr).mono ?_
  rintro e w1 ⟨rfl, hB⟩
  rw [k_find]
  exact ⟨rfl, hB⟩
theorem kPath (A : Option Addr) (c : Nat) (id : Int) (p : ByteArray) (w : World) (hr : RdF w A kG) (hp : pathP kG 8 id = p) : Calls Try.prog 24 #[.agg #[.slice A 2 c, .int .i64 3], .int .i64 id] w fun e w' => e = .returned (.string p) ∧ Below w.heap.size w w' := by
  refine (sPath A c kG 3 k_invG.tr.names 8 id w (by omega) (chain_all k_invG id) hr).mono ?_
  rintro e w1 ⟨rfl, hB⟩
  rw [hp]
  exact ⟨rfl, hB⟩
def kRow : List Cel := [⟨2, ⟨false, 1099511627776, ⟨#[]⟩⟩⟩]
theorem kFits (l : List Fld) (nx : Int) (hI : Inv l nx) (hl : l.length = 2) (b : Bool) (hx : fitsR l kRow = b) (A : Option Addr) (c : Nat) (Ac : Option Addr) (cc : Nat) (w : World) (hr : RdF w A l) (hc : RdC w Ac kRow) : Calls Try.prog 10 #[.agg #[.slice A 2 c, .int .i64 nx], .agg #[.slice Ac 1 cc]] w fun e w' => e = .returned (.bool b) ∧ Below w.heap.size w w' := by
  have := sFits A c l nx Ac cc kRow w hr hc (fun c hc => by simp [kRow] at hc; subst hc; exact ⟨by decide, by decide, by decide⟩) hI.ids
  rw [hl] at this
  refine this.mono ?_
  rintro e w1 ⟨rfl, hB⟩
  rw [hx]
  exact ⟨rfl, hB⟩
theorem kSame (A : Option Addr) (c : Nat) (A2 : Option Addr) (c2 : Nat) (w : World) (hr : RdF w A kA) (hr2 : RdF w A2 kA) : Calls Try.prog 15 #[.agg #[.slice A 2 c, .int .i64 4], .agg #[.slice A2 2 c2, .int .i64 4]] w fun e w' => e = .returned (.bool true) ∧ Below w.heap.size w w' := rSame A c kA 4 A2 c2 w hr hr2
set_option maxRecDepth 100000 in
set_option maxHeartbeats 3200000 in
theorem sanity_ok (w : World) : Calls Try.prog 6 #[] w fun e w' => e = .returned (.bool true) ∧ Below w.heap.size w w' := by
  go_enter Try.func6, Try.ntmps6
  go_upto_region 2 with (go_at_call 12; refine (kAfter1 _ _ (box_new w _ _ rfl)).mono ?_; rintro e w1 ⟨A1, c1, rfl, hr1, hb1⟩)
  refine wp_letter ?_
  intro W1 hW
  have p1 : Box W1 w1.heap.size [.slice A1 2 c1, .int .i64 4] 31 := by subst hW; exact box_new _ _ _ rfl
  have hB1 : Below w.heap.size w W1 := by subst hW; exact below_alloc (below_of (by repeat (first | exact below_refl _ | apply below_alloc | apply below_drew | apply below_drewN)) hb1) _
  have hr1 : RdF W1 A1 kA := by subst hW; exact hr1.keep (by repeat (first | exact below_refl _ | apply below_alloc | apply below_drew | apply below_drewN))
  clear hW hb1
  go_upto_region 3 with (go_at_call 12; refine (kAfter2 _ _ (box_new W1 _ _ rfl)).mono ?_; rintro e w2 ⟨A4, c4, rfl, hr4, hb4⟩)
  refine wp_letter ?_
  intro W2 hW
  have p4 : Box W2 w2.heap.size [.slice A4 2 c4, .int .i64 3] 31 := by subst hW; exact box_new _ _ _ rfl
  have hB2 : Below W1.heap.size W1 W2 := by subst hW; exact below_alloc (below_of (by repeat (first | exact below_refl _ | apply below_alloc | apply below_drew | apply below_drewN)) hb4) _
  have hr4 : RdF W2 A4 kG := by subst hW; exact hr4.keep (by repeat (first | exact below_refl _ | apply below_alloc | apply below_drew | apply below_drewN))
  clear hW hb4
  have p4z := p4.lt; have p4c0 := p4.cell 0 _ rfl; have p4c1 := p4.cell 1 _ rfl
  go_upto_region 4 with (go_at_call 14; refine (kApply _ _ kE1 63 _ hr4 k_apply1 ⟨by decide, by decide, by decide⟩).mono ?_; rintro e w3 ⟨A5, c5, rfl, hb5⟩)
  refine wp_letter ?_
  intro W3 hW
  have hB3 : Below W2.heap.size W2 W3 := by subst hW; exact below_alloc hb5 _
  clear hW hb5 p4c0 p4c1
  have q4 := p4.keep hB3
  have hr4 := hr4.keep hB3
  have q4z := q4.lt; have q4c0 := q4.cell 0 _ rfl; have q4c1 := q4.cell 1 _ rfl
  go_upto_region 5 with (go_at_call 14; refine (kApply _ _ kE2 60 _ hr4 k_apply2 ⟨by decide, by decide, by decide⟩).mono ?_; rintro e w4 ⟨A6, c6, rfl, hb6⟩)
  refine wp_letter ?_
  intro W4 hW
  have hB4 : Below W3.heap.size W3 W4 := by subst hW; exact below_alloc hb6 _
  clear hW hb6 q4c0 q4c1
  have r4 := q4.keep hB4
  have hr4 := hr4.keep hB4
  have r4z := r4.lt; have r4c0 := r4.cell 0 _ rfl; have r4c1 := r4.cell 1 _ rfl
  go_upto_region 7 with (go_at_call 21; refine (kFind _ _ _ hr4).mono ?_; rintro e w5 ⟨rfl, hb5⟩)
  refine wp_letter ?_
  intro W6 hW
  have hB6 : Below W4.heap.size W4 W6 := by subst hW; exact below_alloc (below_alloc hb5 _) _
  have hc : RdC W6 (some ⟨w5.heap.size, 0, none⟩) kRow := by subst hW; exact rd_box Cel.len (((box_new w5 _ _ rfl).alloc _)) (by decide)
  have p13 : Box W6 (w5.heap.size + 1) [.slice (some ⟨w5.heap.size, 0, none⟩) 1 1] 38 := by subst hW; exact box_new _ _ _ (by simp)
  clear hW r4c0 r4c1
  have s4 := r4.keep hB6
  have hr4 := hr4.keep hB6
  have hB26 := below_of (below_of (below_of hB2 hB3) hB4) hB6
  have s1 := p1.keep hB26
  have hr1 := hr1.keep hB26
  have hBw := below_of hB1 hB26
  have s4z := s4.lt; have s4c0 := s4.cell 0 _ rfl; have s4c1 := s4.cell 1 _ rfl; have s1z := s1.lt; have s1c0 := s1.cell 0 _ rfl; have s1c1 := s1.cell 1 _ rfl; have p13z := p13.lt; have p13c0 := p13.cell 0 _ rfl
  have KS : Calls Try.prog 15 #[.agg #[.slice A1 2 c1, .int .i64 4], .agg #[.slice (some ⟨W6.heap.size, 0, none⟩) 2 2, .int .i64 4]] (W6.alloc (.cells #[.int .i64 2, .string ⟨#[98]⟩, .int .i64 4, .int .i64 0, .int .i64 3, .string ⟨#[99]⟩, .int .i64 4, .int .i64 0] 53)) fun e w' => e = .returned (.bool true) ∧ Below (W6.alloc (.cells #[.int .i64 2, .string ⟨#[98]⟩, .int .i64 4, .int .i64 0, .int .i64 3, .string ⟨#[99]⟩, .int .i64 4, .int .i64 0] 53)).heap.size (W6.alloc (.cells #[.int .i64 2, .string ⟨#[98]⟩, .int .i64 4, .int .i64 0, .int .i64 3, .string ⟨#[99]⟩, .int .i64 4, .int .i64 0] 53)) w' :=
    kSame A1 c1 _ 2 _ (hr1.keep (by repeat (first | exact below_refl _ | apply below_alloc | apply below_drew | apply below_drewN))) (rd_box Fld.len (box_new W6 (kA.flatMap Fld.enc) _ rfl) (by decide))
  have K2 := fun (w' : World) (h : Below W6.heap.size W6 w') => kPath A4 c4 2 _ w' (hr4.keep h) k_path2
  have K3 := fun (w' : World) (h : Below W6.heap.size W6 w') => kPath A4 c4 3 _ w' (hr4.keep h) k_path3
  have K4 := fun (w' : World) (h : Below W6.heap.size W6 w') => kFits kG 3 k_invG rfl true k_fits1 A4 c4 _ 1 w' (hr4.keep h) (hc.keep h)
  have K5 := fun (w' : World) (h : Below W6.heap.size W6 w') => kFits kA 4 k_invA rfl false k_fits2 A1 c1 _ 1 w' (hr1.keep h) (hc.keep h)
  go_wp2_with (first
    | (go_at_call 15; (with_reducible refine (KS).mono ?_); rintro e x1 ⟨rfl, hx1⟩; have hx1 := below_of (below_alloc (below_refl W6) _) hx1; have a1 := s4.keep hx1; have b1 := s1.keep hx1; have d1 := p13.keep hx1; have a1z := a1.lt; have a1c0 := a1.cell 0 _ rfl; have a1c1 := a1.cell 1 _ rfl; have b1z := b1.lt; have b1c0 := b1.cell 0 _ rfl; have b1c1 := b1.cell 1 _ rfl; have d1z := d1.lt; have d1c0 := d1.cell 0 _ rfl)
    | (go_at_call 24; (with_reducible refine (K2 _ hx1).mono ?_); rintro e x2 ⟨rfl, hx2⟩; have hx2 := below_of hx1 hx2; have a2 := s4.keep hx2; have b2 := s1.keep hx2; have d2 := p13.keep hx2; have a2z := a2.lt; have a2c0 := a2.cell 0 _ rfl; have a2c1 := a2.cell 1 _ rfl; have b2z := b2.lt; have b2c0 := b2.cell 0 _ rfl; have b2c1 := b2.cell 1 _ rfl; have d2z := d2.lt; have d2c0 := d2.cell 0 _ rfl)
    | (go_at_call 24; (with_reducible refine (K3 _ hx2).mono ?_); rintro e x3 ⟨rfl, hx3⟩; have hx3 := below_of hx2 hx3; have a3 := s4.keep hx3; have b3 := s1.keep hx3; have d3 := p13.keep hx3; have a3z := a3.lt; have a3c0 := a3.cell 0 _ rfl; have a3c1 := a3.cell 1 _ rfl; have b3z := b3.lt; have b3c0 := b3.cell 0 _ rfl; have b3c1 := b3.cell 1 _ rfl; have d3z := d3.lt; have d3c0 := d3.cell 0 _ rfl)
    | (go_at_call 10; (with_reducible refine (K4 _ hx3).mono ?_); rintro e x4 ⟨rfl, hx4⟩; have hx4 := below_of hx3 hx4; have a4 := s4.keep hx4; have b4 := s1.keep hx4; have d4 := p13.keep hx4; have a4z := a4.lt; have a4c0 := a4.cell 0 _ rfl; have a4c1 := a4.cell 1 _ rfl; have b4z := b4.lt; have b4c0 := b4.cell 0 _ rfl; have b4c1 := b4.cell 1 _ rfl; have d4z := d4.lt; have d4c0 := d4.cell 0 _ rfl)
    | (go_at_call 10; (with_reducible refine (K5 _ hx4).mono ?_); rintro e x5 ⟨rfl, hx5⟩; have hx5 := below_of hx4 hx5; have a5 := s4.keep hx5; have b5 := s1.keep hx5; have d5 := p13.keep hx5; have a5z := a5.lt; have a5c0 := a5.cell 0 _ rfl; have a5c1 := a5.cell 1 _ rfl; have b5z := b5.lt; have b5c0 := b5.cell 0 _ rfl; have b5c1 := b5.cell 1 _ rfl; have d5z := d5.lt; have d5c0 := d5.cell 0 _ rfl)
    | (go_at_call 26; (with_reducible refine (sNew _).mono ?_); rintro e x6 ⟨rfl, hx6⟩; have hx6 := below_of hx5 hx6; have a6 := s4.keep hx6; have b6 := s1.keep hx6; have d6 := p13.keep hx6; have a6z := a6.lt; have a6c0 := a6.cell 0 _ rfl; have a6c1 := a6.cell 1 _ rfl; have b6z := b6.lt; have b6c0 := b6.cell 0 _ rfl; have b6c1 := b6.cell 1 _ rfl; have d6z := d6.lt; have d6c0 := d6.cell 0 _ rfl)
    | (go_at_call 25; (with_reducible refine (sValid1 _).mono ?_); rintro e x7 ⟨rfl, hx7⟩; have hx7 := below_of hx6 hx7; have a7 := s4.keep hx7; have b7 := s1.keep hx7; have d7 := p13.keep hx7; have a7z := a7.lt; have a7c0 := a7.cell 0 _ rfl; have a7c1 := a7.cell 1 _ rfl; have b7z := b7.lt; have b7c0 := b7.cell 0 _ rfl; have b7c1 := b7.cell 1 _ rfl; have d7z := d7.lt; have d7c0 := d7.cell 0 _ rfl)
    | (go_at_call 25; (with_reducible refine (sValid0 _).mono ?_); rintro e x8 ⟨rfl, hx8⟩; have hx8 := below_of hx7 hx8; have a8 := s4.keep hx8; have b8 := s1.keep hx8; have d8 := p13.keep hx8; have a8z := a8.lt; have a8c0 := a8.cell 0 _ rfl; have a8c1 := a8.cell 1 _ rfl; have b8z := b8.lt; have b8c0 := b8.cell 0 _ rfl; have b8c1 := b8.cell 1 _ rfl; have d8z := d8.lt; have d8c0 := d8.cell 0 _ rfl))
  exact end_bool rfl rfl rfl rfl ⟨rfl, below_of hBw hx8⟩
end Go.Proofs.Ythcphdgfdkgimaa
