/- The references of fenlandref06, part C. -/
import Derived.Test.YthcphdgfdkgimaaRefB
set_option linter.unusedSimpArgs false
set_option linter.unusedVariables false
namespace Go.Proofs.Ythcphdgfdkgimaa
open Go.RowKit
def withoutP (x y : Int) (g : Fld) : Bool := g.id != x && g.id != y
def withoutR (l : List Fld) (x y : Int) : List Fld := l.filter (withoutP x y)
theorem filter_take_succ {α : Type} (p : α → Bool) {l : List α} {k : Nat} (h : k < l.length) : (l.take (k + 1)).filter p = (l.take k).filter p ++ (if p l[k] then [l[k]] else []) := by
  rw [List.take_succ_eq_append_getElem h, List.filter_append]; by_cases hp : p l[k] <;> simp [hp]
set_option maxRecDepth 100000 in
set_option maxHeartbeats 1000000 in
theorem rWithout (A : Option Addr) (c : Nat) (l : List Fld) (nx x y : Int) (w : World) (hr : RdF w A l) (hl : l.length ≤ 1000) :
    Calls Try.prog 67 #[.agg #[.slice A l.length c, .int .i64 nx], .agg #[.int .i64 x, .int .i64 y]] w (RetS w (withoutR l x y) nx) := by
  go_enter Try.func67, Try.ntmps67
  go_wp2
  go_loopw [6] (fun i wr => ∃ (k : Nat) (v : Value), i = .int .i64 k ∧ k ≤ l.length ∧ Below w.heap.size w wr ∧ Box wr w.heap.size [.slice A l.length c, .int .i64 nx] 31 ∧ Box wr (w.heap.size + 1) [.int .i64 x, .int .i64 y] 93 ∧ Box wr (w.heap.size + 1 + 1) [.slice none 0 0, .int .i64 0] 31 ∧ Box wr (w.heap.size + 1 + 1 + 1) [v, .int .i64 nx] 31 ∧ Own Fld.enc 4 wr (w.heap.size + 1 + 1 + 1 + 1) 53 v (withoutR (l.take k) x y)) (fun i _ => l.length - (intOf i).toNat)
  case atStart => exact ⟨0, _, rfl, by omega, below_alloc (below_alloc (below_alloc (below_alloc (below_refl _) _) _) _) _, (((box_new _ _ _ rfl).alloc _).alloc _).alloc _, ((box_new _ _ _ (by simp)).alloc _).alloc _, (box_new _ _ _ (by simp)).alloc _, box_new _ _ _ (by simp), Own.none _ _ _ _ _⟩
  case round =>
    obtain ⟨k, v, rfl, hk, HB, h0, h1, h2, h3, HO⟩ := hrel
    obtain ⟨Av, cv, rfl, hcv⟩ := HO.slice
    have g0 := h2.cell 0 _ rfl
    have g1 := h2.cell 1 _ rfl
    have g2 := h2.frozen 0
    have g3 := h2.frozen 1
    have hz0 := h0.lt
    have hz1 := h1.lt
    have hz2 := h2.lt
    have hz := h3.lt
    have c0 := h0.cell 0 _ rfl
    have d0 := h1.cell 0 _ rfl
    have d1 := h1.cell 1 _ rfl
    have e0 := h3.cell 0 _ rfl
    have e1 := h3.cell 1 _ rfl
    have e2 := h3.frozen 0
    by_cases hlt : k < l.length
    · obtain ⟨b, o, rfl, hbw, hb, f0, f1, f2, f3⟩ := RdF.atk hr HB k hlt
      have hi0 : (0 : Int) ≤ (k : Int) := by omega
      have hi1 : (k : Int) < (l.length : Int) := by omega
      have hlen : (withoutR (l.take k) x y).length ≤ k := Nat.le_trans (List.length_filter_le _ _) (by simp; omega)
      have hkd : Below wr.heap.size wr wr := below_refl _
      have HW : Hid (withoutR (l.take (k + 1)) x y = withoutR (l.take k) x y ++ (if withoutP x y l[k] then [l[k]] else [])) := filter_take_succ _ hlt
      cases hx : (l[k].id != x)
      · have HW2 : Hid (withoutR (l.take (k + 1)) x y = withoutR (l.take k) x y) := Lib.hid (by rw [HW.out]; simp [withoutP, hx])
        go_wp2
        go_quiet (fail)
        go_wp2
        go_roundw
        case rel => exact ⟨k + 1, _, by go_num, by omega, below_drewN HB _, h0.keep (by repeat (first | exact below_refl _ | apply below_alloc | apply below_drew | apply below_drewN)), h1.keep (by repeat (first | exact below_refl _ | apply below_alloc | apply below_drew | apply below_drewN)), h2.keep (by repeat (first | exact below_refl _ | apply below_alloc | apply below_drew | apply below_drewN)), h3.keep (by repeat (first | exact below_refl _ | apply below_alloc | apply below_drew | apply below_drewN)), by rw [HW2.out]; exact HO.kept (by repeat (first | exact below_refl _ | apply below_alloc | apply below_drew | apply below_drewN))⟩
        case measure => simp [intOf]; omega
      · cases hy : (l[k].id != y)
        · have HW2 : Hid (withoutR (l.take (k + 1)) x y = withoutR (l.take k) x y) := Lib.hid (by rw [HW.out]; simp [withoutP, hx, hy])
          go_wp2
          go_quiet (fail)
          go_wp2
          go_roundw
          case rel => exact ⟨k + 1, _, by go_num, by omega, below_drewN HB _, h0.keep (by repeat (first | exact below_refl _ | apply below_alloc | apply below_drew | apply below_drewN)), h1.keep (by repeat (first | exact below_refl _ | apply below_alloc | apply below_drew | apply below_drewN)), h2.keep (by repeat (first | exact below_refl _ | apply below_alloc | apply below_drew | apply below_drewN)), h3.keep (by repeat (first | exact below_refl _ | apply below_alloc | apply below_drew | apply below_drewN)), by rw [HW2.out]; exact HO.kept (by repeat (first | exact below_refl _ | apply below_alloc | apply below_drew | apply below_drewN))⟩
          case measure => simp [intOf]; omega
        · have HW2 : Hid (withoutR (l.take (k + 1)) x y = withoutR (l.take k) x y ++ [l[k]]) := Lib.hid (by rw [HW.out]; simp [withoutP, hx, hy])
          go_wp2
          go_quiet (fail)
          go_wp2
          refine region_ord (fun w' => Below wr.heap.size wr w') [8, 9, 10] (.q 0 (.q 1 (.q 2 (.q 3 (.q 4 (.q 5 (.q 6 (.g 7 (.g 8 (.g 9 (.g 10 .e))))))))))) (by kernel_rfl) (by kernel_rfl) (fun _ _ d _ _ h => by cases d <;> exact h) (by repeat (first | exact below_refl _ | apply below_alloc | apply below_drew | apply below_drewN)) ?_
          repeat (refine ord_q (v := ?_) rfl (by rfl) ?_ ?_; rotate_left; (focus (intro w' hS; have s0 := cell_keep hS e0; have s1 := cell_keep hS c0; have s2 := cell_keep hS f0; have s3 := cell_keep hS f1; have s4 := cell_keep hS f2; have s5 := cell_keep hS f3; go_simp; exact rfl)); simp only [Act.put, List.setIfInBounds_toArray, List.set_cons_zero, List.set_cons_succ])
          refine ord_g (by rfl) (by rfl) ?_; intro K hK; go_simp; refine hK.out _ _ (by repeat (first | exact below_refl _ | apply below_alloc | apply below_drew | apply below_drewN)) ?_
          refine ord_l (by rfl) rfl (by rfl) ?_; intro K hK
          refine wp_push l[k] (enc := Fld.enc) Fld.len rfl _ _ 29 53 _ 40 (by rfl) Try.underlying29 infoF rfl (by omega) (by omega) (by rfl) (by rfl) (g := wr.heap.size) (box_new _ _ _ (by simp)) (HO.kept (by repeat (first | exact below_refl _ | apply below_alloc | apply below_drew | apply below_drewN))) (below_of HB (by repeat (first | exact below_refl _ | apply below_alloc | apply below_drew | apply below_drewN))) (by first | omega | (simp; omega)) (by omega) (by omega) ?_
          intro A1 c1 w1 HO1 HB1 hg1
          have k0 := (h0.keep (by repeat (first | exact below_refl _ | apply below_alloc | apply below_drew | apply below_drewN))).grown hg1 (HO.ne (by omega))
          have k1 := (h1.keep (by repeat (first | exact below_refl _ | apply below_alloc | apply below_drew | apply below_drewN))).grown hg1 (HO.ne (by omega))
          have k2 := (h2.keep (by repeat (first | exact below_refl _ | apply below_alloc | apply below_drew | apply below_drewN))).grown hg1 (HO.ne (by omega))
          have k3 := (h3.keep (by repeat (first | exact below_refl _ | apply below_alloc | apply below_drew | apply below_drewN))).grown hg1 (HO.ne (by omega))
          have x0 := k3.cell 0 _ rfl
          have x1 := k3.frozen 0
          refine hK.out _ _ ?_
          refine ord_l (by rfl) rfl (by rfl) ?_; intro K hK; go_simp; refine hK.out _ _ ?_
          refine ord_l (by rfl) rfl (by rfl) ?_; intro K hK; go_simp; refine hK.out _ _ ?_
          refine ord_e ?_
          go_wp2
          go_roundw
          case rel => exact ⟨k + 1, _, by go_num, by omega, below_set HB1 (by first | omega | (simp; done) | (simp; omega)) _, k0.far (by first | omega | (simp; done) | (simp; omega)) _, k1.far (by simp) _, k2.far (by first | (simp; done) | omega) _, k3.set _ _, by rw [HW2.out]; exact HO1.set (a := ⟨w.heap.size + 1 + 1 + 1, 0, none⟩) (by simp) _⟩
          case measure => simp [intOf]; omega
    · have HW : Hid (withoutR (l.take k) x y = withoutR l x y) := by rw [List.take_of_length_le (by omega)]; exact rfl
      obtain ⟨A2, c2, he, hc2, hr2, hf2⟩ := ((HO.set (a := ⟨w.heap.size + 1 + 1, 0, none⟩) (by simp) (.slice Av (withoutR (l.take k) x y).length cv)).set (a := ⟨w.heap.size + 1 + 1, 1, none⟩) (by simp) (.int .i64 nx)).rd Fld.len (Nat.le_trans (List.length_filter_le _ _) (by simp; omega))
      cases he
      go_wp2
      exact end_cell (t := 31) rfl rfl ((h2.set 0 _).set 1 _) Try.underlying31 rfl rfl rfl ⟨_, _, by rw [← HW.out]; rfl, by rw [← HW.out]; exact hc2, by rw [← HW.out]; exact hr2, hf2.le (by omega), below_set (below_set HB (by simp; omega) _) (by simp; omega) _⟩
end Go.Proofs.Ythcphdgfdkgimaa
