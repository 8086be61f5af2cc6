/- Package schema, part C: ints in a row, closures, ContainsFunc (made by tools/mk_schc.py). -/
import Derived.Test.YthcphdgfdkgimaaSchB
set_option linter.unusedSimpArgs false
set_option linter.unusedVariables false
namespace Go.Proofs.Ythcphdgfdkgimaa
open Go.RowKit
theorem RdI.atk {w wr : World} {A : Option Addr} {l : List Int} (h : RdI w A l) (HB : Below w.heap.size w wr) (k : Nat) (hk : k < l.length) : ∃ b o, A = some ⟨b, o, none⟩ ∧ b < w.heap.size ∧ b < wr.heap.size ∧ wr.cell? ⟨b, o + k, none⟩ = some (.int .i64 l[k]) := by
  rcases h.2 with rfl | ⟨b, o, rfl, hc⟩
  · simp at hk
  · have e := getElem_of_getD hk
    have c0 := hc k _ 0 _ e rfl
    rw [Nat.mul_one] at c0
    exact ⟨b, o, rfl, cell_lt c0, Nat.lt_of_lt_of_le (cell_lt c0) HB.size, cell_keep HB c0⟩
def idxGo (x : Int) : List Int → Nat → Int
  | [], _ => -1
  | y :: r, k => if (x == y) = true then k else idxGo x r (k + 1)
theorem idxGo_step {x : Int} {l : List Int} {k : Nat} (hk : k < l.length) : idxGo x (l.drop k) k = if (x == l[k]) = true then (k : Int) else idxGo x (l.drop (k + 1)) (k + 1) := by
  rw [List.drop_eq_getElem_cons hk]; rfl
theorem idxGo_any (x : Int) : ∀ (l : List Int) (k : Nat), decide (0 ≤ idxGo x l k) = l.any (fun y => x == y)
  | [], k => by simp [idxGo]
  | y :: r, k => by
    unfold idxGo
    cases h : (x == y)
    · simpa [h] using idxGo_any x r (k + 1)
    · simp [h]
set_option maxHeartbeats 400000 in
theorem sIdx (A : Option Addr) (c : Nat) (l : List Int) (x : Int) (w : World) (hr : RdI w A l) :
    Calls Try.prog 75 #[.slice A l.length c, .int .i64 x] w fun e w' => e = .returned (.int .i64 (idxGo x l 0)) ∧ w' = w := by
  have hl := hr.1
  go_enter Try.func75, Try.ntmps75
  go_wp2
  go_loop [8] (fun i => ∃ (k : Nat), i = .int .i64 k ∧ k ≤ l.length ∧ Hid (idxGo x (l.drop k) k = idxGo x l 0)) (fun i => l.length - (intOf i).toNat)
  case atStart => exact ⟨0, rfl, by omega, rfl⟩
  case round =>
    obtain ⟨k, rfl, hk, hgo⟩ := hrel
    by_cases hlt : k < l.length
    · obtain ⟨b, o, rfl, hbw, hb, f0⟩ := RdI.atk hr (below_refl _) k hlt
      have hi0 : (0 : Int) ≤ (k : Int) := by omega
      have hi1 : (k : Int) < (l.length : Int) := by omega
      have hst := Lib.hid (idxGo_step (x := x) hlt)
      go_wp2
      · have hp : (x == l[k]) = true := by assumption
        exact end_int rfl rfl rfl (by rw [← hgo.out, hst.out]; exact (if_pos hp).symm) ⟨rfl, rfl⟩
      · have hp : (x == l[k]) = false := by assumption
        go_round
        case rel => exact ⟨k + 1, by go_num, by omega, by rw [← hgo.out, hst.out, if_neg (by rw [hp]; decide)]; exact rfl⟩
        case measure => simp [intOf]; omega
    · go_wp2
      exact end_int rfl rfl rfl (by rw [← hgo.out, List.drop_eq_nil_of_le (by omega)]; rfl) ⟨rfl, rfl⟩
set_option maxHeartbeats 400000 in
theorem sContains (A : Option Addr) (c : Nat) (l : List Int) (x : Int) (w : World) (hr : RdI w A l) :
    Calls Try.prog 62 #[.slice A l.length c, .int .i64 x] w fun e w' => e = .returned (.bool (l.any (fun y => x == y))) ∧ w' = w := by
  go_enter Try.func62, Try.ntmps62
  go_wp2_with (go_at_call 75; refine (sIdx _ _ _ _ _ hr).mono ?_; rintro e w1 ⟨rfl, hww⟩; rw [hww])
  exact end_bool rfl rfl rfl (idxGo_any x l 0) ⟨rfl, rfl⟩
set_option maxHeartbeats 400000 in
theorem sDropC (b o : Nat) (id : Int) (f : Fld) (w : World) (hq : w.cell? ⟨b, o + 1, none⟩ = some (.int .i64 id)) : Calls Try.prog 60 #[fldV f, .pointer (some ⟨b, o, none⟩)] w fun e w' => e = .returned (.bool (f.par == id)) ∧ Below w.heap.size w w' := by
  have hl := cell_lt hq
  have hq2 : (w.alloc (.cells f.enc.toArray 53)).cell? ⟨b, o + 1, none⟩ = some (.int .i64 id) := cell_keep (by repeat (first | exact below_refl _ | apply below_alloc | apply below_drew | apply below_drewN)) hq
  go_enter Try.func60, Try.ntmps60
  go_wp2
  exact end_tmp rfl rfl rfl ⟨rfl, (by repeat (first | exact below_refl _ | apply below_alloc | apply below_drew | apply below_drewN))⟩
def takenQ (nm : ByteArray) (par : Int) (ws : List Int) (f : Fld) : Bool := f.par == par && (f.name.toList == nm.toList && !(ws.any (fun y => f.id == y)))
set_option maxHeartbeats 800000 in
theorem sTakenC (b1 b2 b3 : Nat) (par : Int) (nm : ByteArray) (Aw : Option Addr) (cw : Nat) (ws : List Int) (f : Fld) (w : World) (h1 : w.cell? ⟨b1, 0, none⟩ = some (.int .i64 par)) (h2 : w.cell? ⟨b2, 0, none⟩ = some (.string nm)) (h3 : w.cell? ⟨b3, 0, none⟩ = some (.slice Aw ws.length cw)) (hw : RdI w Aw ws) :
    Calls Try.prog 72 #[fldV f, .pointer (some ⟨b1, 0, none⟩), .pointer (some ⟨b2, 0, none⟩), .pointer (some ⟨b3, 0, none⟩)] w fun e w' => e = .returned (.bool (takenQ nm par ws f)) ∧ Below w.heap.size w w' := by
  have l1 := cell_lt h1
  have l2 := cell_lt h2
  have l3 := cell_lt h3
  go_enter Try.func72, Try.ntmps72
  go_upto_region 1 with (fail)
  refine wp_letter ?_
  intro W hW
  have h0 : Box W w.heap.size f.enc 53 := by subst hW; exact box_new _ _ _ rfl
  have hB : Below w.heap.size w W := by subst hW; exact (by repeat (first | exact below_refl _ | apply below_alloc | apply below_drew | apply below_drewN))
  clear hW
  have h0z := h0.lt; have h0c0 := h0.cell 0 _ rfl; have h0c1 := h0.cell 1 _ rfl; have h0c2 := h0.cell 2 _ rfl; have h0c3 := h0.cell 3 _ rfl
  have g1 := cell_keep hB h1
  have g2 := cell_keep hB h2
  have g3 := cell_keep hB h3
  have m1 := cell_lt g1
  have m2 := cell_lt g2
  have m3 := cell_lt g3
  go_wp2_with (go_at_call 62; refine (sContains _ _ _ _ _ (hw.keep hB)).mono ?_; rintro e w1 ⟨rfl, hww⟩; rw [hww])
  all_goals exact end_bool rfl rfl rfl (by simp_all [takenQ]) ⟨rfl, hB⟩
set_option maxHeartbeats 800000 in
theorem sTakenF (A : Option Addr) (c : Nat) (l : List Fld) (b1 b2 b3 : Nat) (par : Int) (nm : ByteArray) (Aw : Option Addr) (cw : Nat) (ws : List Int) (w : World) (hr : RdF w A l) (h1 : w.cell? ⟨b1, 0, none⟩ = some (.int .i64 par)) (h2 : w.cell? ⟨b2, 0, none⟩ = some (.string nm)) (h3 : w.cell? ⟨b3, 0, none⟩ = some (.slice Aw ws.length cw)) (hw : RdI w Aw ws) :
    Calls Try.prog 70 #[.slice A l.length c, .func (.func 72) #[] #[.pointer (some ⟨b1, 0, none⟩), .pointer (some ⟨b2, 0, none⟩), .pointer (some ⟨b3, 0, none⟩)]] w fun e w' => e = .returned (.int .i64 (firstR (takenQ nm par ws) l)) ∧ Below w.heap.size w w' := by
  have hl := hr.1
  go_enter Try.func70, Try.ntmps70
  go_wp2
  go_loopw [8] (fun i wr => ∃ (k : Nat), i = .int .i64 k ∧ k ≤ l.length ∧ Hid (firstGo (takenQ nm par ws) (l.drop k) k = firstR (takenQ nm par ws) l) ∧ Below w.heap.size w wr) (fun i _ => l.length - (intOf i).toNat)
  case atStart => exact ⟨0, rfl, by omega, rfl, below_refl _⟩
  case round =>
    obtain ⟨k, rfl, hk, hgo, HB⟩ := hrel
    by_cases hlt : k < l.length
    · obtain ⟨b, o, rfl, hbw, hb, f0, f1, f2, f3⟩ := RdF.atk hr HB k hlt
      have hi0 : (0 : Int) ≤ (k : Int) := by omega
      have hi1 : (k : Int) < (l.length : Int) := by omega
      have hst := Lib.hid (firstGo_step (p := takenQ nm par ws) hlt)
      go_wp2_with (go_at_call 72; refine (sTakenC b1 b2 b3 par nm Aw cw ws l[k] _ (cell_keep HB h1) (cell_keep HB h2) (cell_keep HB h3) (hw.keep HB)).mono ?_; rintro e w1 ⟨rfl, hb1⟩)
      · have hp : (takenQ nm par ws l[k]) = true := by assumption
        exact end_int rfl rfl rfl (by rw [← hgo.out, hst.out]; exact (if_pos hp).symm) ⟨rfl, below_of HB hb1⟩
      · have hp : (takenQ nm par ws l[k]) = false := by assumption
        go_roundw
        case rel => exact ⟨k + 1, by go_num, by omega, by rw [← hgo.out, hst.out, if_neg (by rw [hp]; decide)]; exact rfl, below_of HB hb1⟩
        case measure => simp [intOf]; omega
    · go_wp2
      exact end_int rfl rfl rfl (by rw [← hgo.out, List.drop_eq_nil_of_le (by omega)]; rfl) ⟨rfl, HB⟩
set_option maxHeartbeats 800000 in
theorem sDropF (A : Option Addr) (c : Nat) (l : List Fld) (b0 o0 : Nat) (id : Int) (w : World) (hr : RdF w A l) (hq : w.cell? ⟨b0, o0 + 1, none⟩ = some (.int .i64 id)) :
    Calls Try.prog 70 #[.slice A l.length c, .func (.func 60) #[] #[.pointer (some ⟨b0, o0, none⟩)]] w fun e w' => e = .returned (.int .i64 (firstR (fun g : Fld => g.par == id) l)) ∧ Below w.heap.size w w' := by
  have hl := hr.1
  go_enter Try.func70, Try.ntmps70
  go_wp2
  go_loopw [8] (fun i wr => ∃ (k : Nat), i = .int .i64 k ∧ k ≤ l.length ∧ Hid (firstGo (fun g : Fld => g.par == id) (l.drop k) k = firstR (fun g : Fld => g.par == id) l) ∧ Below w.heap.size w wr) (fun i _ => l.length - (intOf i).toNat)
  case atStart => exact ⟨0, rfl, by omega, rfl, below_refl _⟩
  case round =>
    obtain ⟨k, rfl, hk, hgo, HB⟩ := hrel
    by_cases hlt : k < l.length
    · obtain ⟨b, o, rfl, hbw, hb, f0, f1, f2, f3⟩ := RdF.atk hr HB k hlt
      have hi0 : (0 : Int) ≤ (k : Int) := by omega
      have hi1 : (k : Int) < (l.length : Int) := by omega
      have hst := Lib.hid (firstGo_step (p := fun g : Fld => g.par == id) hlt)
      go_wp2_with (go_at_call 60; refine (sDropC b0 o0 id l[k] _ (cell_keep HB hq)).mono ?_; rintro e w1 ⟨rfl, hb1⟩)
      · have hp : (l[k].par == id) = true := by assumption
        exact end_int rfl rfl rfl (by rw [← hgo.out, hst.out]; exact (if_pos hp).symm) ⟨rfl, below_of HB hb1⟩
      · have hp : (l[k].par == id) = false := by assumption
        go_roundw
        case rel => exact ⟨k + 1, by go_num, by omega, by rw [← hgo.out, hst.out, if_neg (by rw [hp]; decide)]; exact rfl, below_of HB hb1⟩
        case measure => simp [intOf]; omega
    · go_wp2
      exact end_int rfl rfl rfl (by rw [← hgo.out, List.drop_eq_nil_of_le (by omega)]; rfl) ⟨rfl, HB⟩
set_option maxHeartbeats 400000 in
theorem sTakenCF (A : Option Addr) (c : Nat) (l : List Fld) (b1 b2 b3 : Nat) (par : Int) (nm : ByteArray) (Aw : Option Addr) (cw : Nat) (ws : List Int) (w : World) (hr : RdF w A l) (h1 : w.cell? ⟨b1, 0, none⟩ = some (.int .i64 par)) (h2 : w.cell? ⟨b2, 0, none⟩ = some (.string nm)) (h3 : w.cell? ⟨b3, 0, none⟩ = some (.slice Aw ws.length cw)) (hw : RdI w Aw ws) :
    Calls Try.prog 59 #[.slice A l.length c, .func (.func 72) #[] #[.pointer (some ⟨b1, 0, none⟩), .pointer (some ⟨b2, 0, none⟩), .pointer (some ⟨b3, 0, none⟩)]] w fun e w' => e = .returned (.bool (l.any (takenQ nm par ws))) ∧ Below w.heap.size w w' := by
  go_enter Try.func59, Try.ntmps59
  go_wp2_with (go_at_call 70; refine (sTakenF _ _ _ b1 b2 b3 par nm Aw cw ws _ hr h1 h2 h3 hw).mono ?_; rintro e w1 ⟨rfl, hb⟩)
  exact end_bool rfl rfl rfl (firstGo_any (takenQ nm par ws) l 0) ⟨rfl, hb⟩
set_option maxHeartbeats 400000 in
theorem sDropCF (A : Option Addr) (c : Nat) (l : List Fld) (b o : Nat) (id : Int) (w : World) (hr : RdF w A l) (hq : w.cell? ⟨b, o + 1, none⟩ = some (.int .i64 id)) :
    Calls Try.prog 59 #[.slice A l.length c, .func (.func 60) #[] #[.pointer (some ⟨b, o, none⟩)]] w fun e w' => e = .returned (.bool (l.any (fun g : Fld => g.par == id))) ∧ Below w.heap.size w w' := by
  go_enter Try.func59, Try.ntmps59
  go_wp2_with (go_at_call 70; refine (sDropF _ _ _ b o id _ hr hq).mono ?_; rintro e w1 ⟨rfl, hb⟩)
  exact end_bool rfl rfl rfl (firstGo_any (fun g : Fld => g.par == id) l 0) ⟨rfl, hb⟩
end Go.Proofs.Ythcphdgfdkgimaa
