/- The references of fenlandref06: Fits, Same. -/
import Derived.Test.YthcphdgfdkgimaaRefR
set_option linter.unusedSimpArgs false
set_option linter.unusedVariables false
namespace Go.Proofs.Ythcphdgfdkgimaa
open Go.RowKit
theorem RdC.atk {w wr : World} {A : Option Addr} {l : List Cel} (h : RdC w A l) (HB : Below w.heap.size w wr) (k : Nat) (hk : k < l.length) : ∃ b o, A = some ⟨b, o, none⟩ ∧ b < w.heap.size ∧ b < wr.heap.size ∧ wr.cell? ⟨b, o + k * 4, none⟩ = some (.int .i64 l[k].id) ∧ wr.cell? ⟨b, o + k * 4 + 1, none⟩ = some (.bool l[k].v.nul) ∧ wr.cell? ⟨b, o + k * 4 + 2, none⟩ = some (.int .i64 l[k].v.n) ∧ wr.cell? ⟨b, o + k * 4 + 3, none⟩ = some (.string l[k].v.s) := by
  obtain ⟨b, o, e, hb, c0, c1, c2, c3⟩ := RdC.at_ h k hk
  exact ⟨b, o, e, hb, Nat.lt_of_lt_of_le hb HB.size, cell_keep HB c0, cell_keep HB c1, cell_keep HB c2, cell_keep HB c3⟩
/-- one cell fits, whatever stands before it -/
def fit1 (l : List Fld) (c : Cel) : Bool := hasF l c.id && (!((getF l c.id).ty == 6)) && (!c.v.nul) && validR c.v (getF l c.id).ty
def fitsGo (l : List Fld) : Option Int → List Cel → Bool
  | _, [] => true
  | p, c :: r => fit1 l c && (match p with | none => true | some q => decide (q < c.id)) && fitsGo l (some c.id) r
def fitsR (l : List Fld) (cs : List Cel) : Bool := fitsGo l none cs
set_option maxRecDepth 100000 in
set_option maxHeartbeats 1600000 in
theorem rFits (A : Option Addr) (cp : Nat) (l : List Fld) (nx : Int) (Ac : Option Addr) (cc : Nat) (cs : List Cel) (w : World) (hr : RdF w A l) (hc : RdC w Ac cs) (hs : ∀ c ∈ cs, c.v.s.size ≤ 9223372036854775807) :
    Calls Try.prog 11 #[.agg #[.slice A l.length cp, .int .i64 nx], .agg #[.slice Ac cs.length cc]] w fun e w' => e = .returned (.bool (fitsR l cs)) ∧ Below w.heap.size w w' := by
  have hl2 := hr.1
  have hc2 := hc.1
  go_enter Try.func11, Try.ntmps11
  go_wp2
  go_loopw [5] (fun i wr => ∃ (k : Nat), i = .int .i64 k ∧ k ≤ cs.length ∧ Hid (fitsGo l (if k = 0 then none else (cs[k - 1]?).map (·.id)) (cs.drop k) = fitsR l cs) ∧ Below w.heap.size w wr ∧ Box wr w.heap.size [.slice A l.length cp, .int .i64 nx] 31 ∧ Box wr (w.heap.size + 1) [.slice Ac cs.length cc] 38) (fun i _ => cs.length - (intOf i).toNat)
  case atStart => exact ⟨0, rfl, by omega, rfl, (by repeat (first | exact below_refl _ | apply below_alloc | apply below_drew | apply below_drewN)), (box_new _ _ _ rfl).alloc _, box_new _ _ _ (by simp)⟩
  case round =>
    obtain ⟨k, rfl, hk, hgo, HB, k0, k1⟩ := hrel
    have k0z := k0.lt; have k0c0 := k0.cell 0 _ rfl; have k0c1 := k0.cell 1 _ rfl; have k1z := k1.lt; have k1c0 := k1.cell 0 _ rfl
    by_cases hlt : k < cs.length
    · obtain ⟨b, o, rfl, hbw, hb, f0, f1, f2, f3⟩ := RdC.atk hc HB k hlt
      have hi0 : (0 : Int) ≤ (k : Int) := by omega
      have hi1 : (k : Int) < (cs.length : Int) := by omega
      have hsz := hs cs[k] (List.getElem_mem hlt)
      go_upto_region 5 with (fail)
      refine wp_letter ?_
      intro W5 hW
      have hB5 : Below wr.heap.size wr W5 := by rw [hW]; exact (by repeat (first | exact below_refl _ | apply below_alloc | apply below_drew | apply below_drewN))
      have p6 : Box W5 wr.heap.size cs[k].enc 27 := by rw [hW]; exact box_new _ _ _ rfl
      clear hW
      have p0 := k0.keep hB5
      have p1 := k1.keep hB5
      have p0z := p0.lt; have p0c0 := p0.cell 0 _ rfl; have p0c1 := p0.cell 1 _ rfl; have p1z := p1.lt; have p1c0 := p1.cell 0 _ rfl; have p6z := p6.lt; have p6c0 := p6.cell 0 _ rfl; have p6c1 := p6.cell 1 _ rfl; have p6c2 := p6.cell 2 _ rfl; have p6c3 := p6.cell 3 _ rfl
      have hBw := below_of HB hB5
      go_upto_region 6 with (go_at_call 20; refine (rField _ _ _ _ _ _ (hr.keep (below_of hBw (by repeat (first | exact below_refl _ | apply below_alloc | apply below_drew | apply below_drewN))))).mono ?_; rintro e w1 ⟨rfl, hb1⟩)
      generalize hF : getF l cs[k].id = f at *
      generalize hH : hasF l cs[k].id = has at *
      refine wp_letter ?_
      intro W6 hW
      have hB6 : Below W5.heap.size W5 W6 := by rw [hW]; exact below_alloc hb1 _
      have q7 : Box W6 w1.heap.size f.enc 53 := by rw [hW]; exact box_new _ _ _ rfl
      clear hW
      have q0 := p0.keep hB6
      have q1 := p1.keep hB6
      have q6 := p6.keep hB6
      have q0z := q0.lt; have q0c0 := q0.cell 0 _ rfl; have q0c1 := q0.cell 1 _ rfl; have q1z := q1.lt; have q1c0 := q1.cell 0 _ rfl; have q6z := q6.lt; have q6c0 := q6.cell 0 _ rfl; have q6c1 := q6.cell 1 _ rfl; have q6c2 := q6.cell 2 _ rfl; have q6c3 := q6.cell 3 _ rfl; have q7z := q7.lt; have q7c0 := q7.cell 0 _ rfl; have q7c1 := q7.cell 1 _ rfl; have q7c2 := q7.cell 2 _ rfl; have q7c3 := q7.cell 3 _ rfl
      have hBw6 := below_of hBw hB6
      go_upto_region 7 with (go_at_call 30; refine (rValid cs[k].v _ _ hsz).mono ?_; rintro e w2 ⟨rfl, hbv⟩; have m0 := q0.keep hbv; have m1 := q1.keep hbv; have m6 := q6.keep hbv; have m7 := q7.keep hbv; have m0z := m0.lt; have m0c0 := m0.cell 0 _ rfl; have m0c1 := m0.cell 1 _ rfl; have m1z := m1.lt; have m1c0 := m1.cell 0 _ rfl; have m6z := m6.lt; have m6c0 := m6.cell 0 _ rfl; have m6c1 := m6.cell 1 _ rfl; have m6c2 := m6.cell 2 _ rfl; have m6c3 := m6.cell 3 _ rfl; have m7z := m7.lt; have m7c0 := m7.cell 0 _ rfl; have m7c1 := m7.cell 1 _ rfl; have m7c2 := m7.cell 2 _ rfl; have m7c3 := m7.cell 3 _ rfl)
      have hB6w := below_of hBw6 hbv
      have hck : cs.drop k = cs[k] :: cs.drop (k + 1) := List.drop_eq_getElem_cons hlt
      have hbad : fit1 l cs[k] = false → fitsR l cs = false := by
        intro h; rw [← hgo.out, hck]; simp [fitsGo, h]
      generalize hV : validR cs[k].v f.ty = vd at *
      cases has
      · have hf1 : fit1 l cs[k] = false := by simp only [fit1, hF, hH]; simp
        go_quiet (fail)
        have hBq := below_drewN hB6w nq
        go_wp2
        exact end_bool rfl rfl rfl (hbad hf1).symm ⟨rfl, hBq⟩
      cases ht : (f.ty == 6)
      rotate_left
      · have hf1 : fit1 l cs[k] = false := by simp only [fit1, hF, hH, ht]; simp
        go_quiet (fail)
        have hBq := below_drewN hB6w nq
        go_wp2
        exact end_bool rfl rfl rfl (hbad hf1).symm ⟨rfl, hBq⟩
      cases hn : cs[k].v.nul
      rotate_left
      · rw [hn] at m6c1
        have hf1 : fit1 l cs[k] = false := by simp only [fit1, hF, hH, ht, hn]; simp
        go_quiet (fail)
        have hBq := below_drewN hB6w nq
        go_wp2
        exact end_bool rfl rfl rfl (hbad hf1).symm ⟨rfl, hBq⟩
      rw [hn] at m6c1
      cases vd
      · have hf1 : fit1 l cs[k] = false := by simp only [fit1, hF, hH, ht, hn, hV]; simp
        go_quiet (fail)
        have hBq := below_drewN hB6w nq
        go_wp2
        exact end_bool rfl rfl rfl (hbad hf1).symm ⟨rfl, hBq⟩
      have hf1 : fit1 l cs[k] = true := by simp only [fit1, hF, hH, ht, hn, hV]; simp
      cases k with
      | zero =>
        have hv : Hid (fitsGo l (some cs[0].id) (cs.drop 1) = fitsR l cs) := Lib.hid (by rw [← hgo.out, hck]; simp [fitsGo, hf1])
        have hg0 : cs[0]? = some cs[0] := getElem_of_getD hlt
        go_quiet (fail)
        have hBq := below_drewN hB6w nq
        go_wp2
        go_roundw
        case rel => exact ⟨1, by go_num, by omega, Lib.hid (by rw [← hv.out]; simp [hg0]), hBq, m0.keep (by repeat (first | exact below_refl _ | apply below_alloc | apply below_drew | apply below_drewN)), m1.keep (by repeat (first | exact below_refl _ | apply below_alloc | apply below_drew | apply below_drewN))⟩
        case measure => simp [intOf]; omega
      | succ j =>
        have hg0 : cs[j]? = some cs[j] := getElem_of_getD (by omega)
        have hg1 : cs[j + 1]? = some cs[j + 1] := getElem_of_getD hlt
        obtain ⟨b2, o2, he2, hbw2, hbx2, e0, _, _, _⟩ := RdC.atk hc hB6w j (by omega)
        cases he2
        have hj0 : (0 : Int) ≤ (j : Int) := by omega
        have hj1 : (j : Int) < (cs.length : Int) := by omega
        by_cases hle : cs[j + 1].id ≤ cs[j].id
        · have hv : fitsR l cs = false := by
            rw [← hgo.out, hck]; simp [fitsGo, hf1, hg0]; intro h; omega
          go_quiet (fail)
          have hBq := below_drewN hB6w nq
          go_wp2
          exact end_bool rfl rfl rfl hv.symm ⟨rfl, hBq⟩
        · have hlt3 : cs[j].id < cs[j + 1].id := by omega
          have hv : Hid (fitsGo l (some cs[j + 1].id) (cs.drop (j + 1 + 1)) = fitsR l cs) := Lib.hid (by rw [← hgo.out, hck]; simp [fitsGo, hf1, hg0, hlt3])
          go_quiet (fail)
          have hBq := below_drewN hB6w nq
          go_wp2
          go_roundw
          case rel => exact ⟨j + 1 + 1, by go_num, by omega, Lib.hid (by rw [← hv.out]; simp [hg1]), hBq, m0.keep (by repeat (first | exact below_refl _ | apply below_alloc | apply below_drew | apply below_drewN)), m1.keep (by repeat (first | exact below_refl _ | apply below_alloc | apply below_drew | apply below_drewN))⟩
          case measure => simp [intOf]; omega
    · have hfin : Hid (fitsR l cs = true) := by rw [← hgo.out, List.drop_eq_nil_of_le (by omega)]; exact rfl
      go_wp2
      exact end_bool rfl rfl rfl hfin.out.symm ⟨rfl, HB⟩
end Go.Proofs.Ythcphdgfdkgimaa
