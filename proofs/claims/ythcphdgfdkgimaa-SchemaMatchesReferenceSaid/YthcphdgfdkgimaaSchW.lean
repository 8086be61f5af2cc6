/- Package schema: Fits. -/
import Derived.Test.YthcphdgfdkgimaaSchV
set_option linter.unusedSimpArgs false
set_option linter.unusedVariables false
namespace Go.Proofs.Ythcphdgfdkgimaa
open Go.RowKit
def Val.ok (v : Val) : Prop := v.s.size ≤ 9223372036854775807 ∧ -9223372036854775808 ≤ v.n ∧ v.n ≤ 9223372036854775807
def sfitsGo (l : List Fld) : Int → List Cel → Bool
  | _, [] => true
  | p, c :: r => if (!hasF l c.id) = true then false else if c.id ≤ p then false else if ((getF l c.id).ty == 6) = true then false else if c.v.nul = true then false else if (!validR c.v (getF l c.id).ty) = true then false else sfitsGo l c.id r
theorem sfits_some (l : List Fld) : ∀ (cs : List Cel) (p : Int), fitsGo l (some p) cs = sfitsGo l p cs
  | [], p => rfl
  | c :: r, p => by
    have ih := sfits_some l r c.id
    unfold fitsGo sfitsGo fit1
    rw [ih]
    cases hasF l c.id <;> cases ((getF l c.id).ty == 6) <;> cases c.v.nul <;> cases validR c.v (getF l c.id).ty <;> simp
    congr 1
    rw [Bool.eq_iff_iff]; simp
theorem sfits_none (l : List Fld) (h1 : ∀ f ∈ l, 1 ≤ f.id) : ∀ (cs : List Cel), fitsGo l none cs = sfitsGo l 0 cs
  | [] => rfl
  | c :: r => by
    have ih := sfits_some l r c.id
    unfold fitsGo sfitsGo fit1
    rw [ih]
    cases hh : hasF l c.id
    · simp
    · have h0 : ¬ c.id ≤ 0 := by
        have := has_id hh
        have hm : getF l c.id ∈ l := by
          unfold getF; unfold hasF at hh
          obtain ⟨x, hx⟩ := Option.isSome_iff_exists.1 hh
          rw [hx]; exact List.mem_of_find?_eq_some hx
        have := h1 _ hm
        omega
      rw [if_neg h0]
      cases ((getF l c.id).ty == 6) <;> cases c.v.nul <;> cases validR c.v (getF l c.id).ty <;> simp
theorem sfitsGo_step {l : List Fld} {cs : List Cel} {k : Nat} (hk : k < cs.length) (p : Int) : sfitsGo l p (cs.drop k) = if (!hasF l cs[k].id) = true then false else if cs[k].id ≤ p then false else if ((getF l cs[k].id).ty == 6) = true then false else if cs[k].v.nul = true then false else if (!validR cs[k].v (getF l cs[k].id).ty) = true then false else sfitsGo l cs[k].id (cs.drop (k + 1)) := by
  rw [List.drop_eq_getElem_cons hk]; rfl
set_option maxRecDepth 100000 in
set_option maxHeartbeats 1600000 in
theorem sFits (A : Option Addr) (cp : Nat) (l : List Fld) (nx : Int) (Ac : Option Addr) (cc : Nat) (cs : List Cel) (w : World) (hr : RdF w A l) (hc : RdC w Ac cs) (hs : ∀ c ∈ cs, c.v.ok) (h1 : ∀ f ∈ l, 1 ≤ f.id) :
    Calls Try.prog 10 #[.agg #[.slice A l.length cp, .int .i64 nx], .agg #[.slice Ac cs.length cc]] w fun e w' => e = .returned (.bool (fitsR l cs)) ∧ Below w.heap.size w w' := by
  have hl2 := hr.1
  have hl3 := hc.1
  have hgo := Lib.hid (sfits_none l h1 cs)
  go_enter Try.func10, Try.ntmps10
  go_upto_region 1 with (fail)
  refine wp_letter ?_
  intro W hW
  have h2 : Box W w.heap.size [.slice A l.length cp, .int .i64 nx] 31 := by subst hW; exact (box_new _ _ _ rfl).alloc _
  have h3 : Box W (w.heap.size + 1) [.slice Ac cs.length cc] 38 := by subst hW; exact box_new _ _ _ (by simp)
  have hB : Below w.heap.size w W := by subst hW; exact (by repeat (first | exact below_refl _ | apply below_alloc | apply below_drew | apply below_drewN))
  clear hW
  have h2z := h2.lt; have h2c0 := h2.cell 0 _ rfl; have h2c1 := h2.cell 1 _ rfl; have h3z := h3.lt; have h3c0 := h3.cell 0 _ rfl
  go_wp2
  go_loopw [5, 13] (fun q i wr => ∃ (k : Nat) (p : Int), q = .int .i64 p ∧ i = .int .i64 k ∧ k ≤ cs.length ∧ Hid (sfitsGo l p (cs.drop k) = fitsR l cs) ∧ Below w.heap.size w wr ∧ Box wr w.heap.size [.slice A l.length cp, .int .i64 nx] 31) (fun _ i _ => cs.length - (intOf i).toNat)
  case atStart => exact ⟨0, 0, rfl, rfl, by omega, Lib.hid hgo.out.symm, hB, h2⟩
  case round =>
    obtain ⟨k, p, rfl, rfl, hk, hg, HB, k2⟩ := hrel
    by_cases hlt : k < cs.length
    · obtain ⟨b, o, rfl, hbw, hb, f0, f1, f2, f3⟩ := RdC.atk hc HB k hlt
      have hi0 : (0 : Int) ≤ (k : Int) := by omega
      have hi1 : (k : Int) < (cs.length : Int) := by omega
      have hst := Lib.hid (sfitsGo_step (l := l) hlt p)
      obtain ⟨hv1, hv2⟩ := hs cs[k] (List.getElem_mem hlt)
      clear h2c0 h2c1 h3c0
      go_upto_region 5 with (fail)
      refine wp_letter ?_
      intro W5 hW
      have p7 : Box W5 wr.heap.size cs[k].enc 27 := by subst hW; exact box_new _ _ _ rfl
      have hB5 : Below wr.heap.size wr W5 := by subst hW; exact (by repeat (first | exact below_refl _ | apply below_alloc | apply below_drew | apply below_drewN))
      clear hW
      have p2 := k2.keep hB5
      have hBw := below_of HB hB5
      have hr5 := hr.keep hBw
      clear f0 f1 f2 f3
      have p2z := p2.lt; have p2c0 := p2.cell 0 _ rfl; have p2c1 := p2.cell 1 _ rfl; have p7z := p7.lt; have p7c0 := p7.cell 0 _ rfl; have p7c1 := p7.cell 1 _ rfl; have p7c2 := p7.cell 2 _ rfl; have p7c3 := p7.cell 3 _ rfl
      go_upto_region 6 with (go_at_call 19; (with_reducible refine (sField _ _ _ _ _ _ hr5).mono ?_); rintro e wa ⟨rfl, hba⟩)
      refine wp_letter ?_
      intro W6 hW
      have q8 : Box W6 wa.heap.size (getF l cs[k].id).enc 53 := by subst hW; exact box_new _ _ _ rfl
      have hB6 : Below W5.heap.size W5 W6 := by subst hW; exact below_alloc hba _
      clear hW
      have q2 := p2.keep hB6
      have q7 := p7.keep hB6
      have hBx := below_of hBw hB6
      clear p2c0 p2c1 p7c0 p7c1 p7c2 p7c3
      have q2z := q2.lt; have q2c0 := q2.cell 0 _ rfl; have q2c1 := q2.cell 1 _ rfl; have q7z := q7.lt; have q7c0 := q7.cell 0 _ rfl; have q7c1 := q7.cell 1 _ rfl; have q7c2 := q7.cell 2 _ rfl; have q7c3 := q7.cell 3 _ rfl; have q8z := q8.lt; have q8c0 := q8.cell 0 _ rfl; have q8c1 := q8.cell 1 _ rfl; have q8c2 := q8.cell 2 _ rfl; have q8c3 := q8.cell 3 _ rfl
      clear hr5
      generalize cs[k] = c at *
      obtain ⟨cid, nul, n, s⟩ := c
      simp only at *
      generalize hF : getF l cid = f at *
      generalize hH : hasF l cid = has at *
      have hFh := Lib.hid hF
      have hHh := Lib.hid hH
      clear hF hH
      have hend : ∀ (x : Bool) (w' : World), (if (!has) = true then false else if cid ≤ p then false else if (f.ty == 6) = true then false else if nul = true then false else if (!validR ⟨nul, n, s⟩ f.ty) = true then false else sfitsGo l cid (cs.drop (k + 1))) = x → Below w.heap.size w w' → (Ending.returned (.bool x) = Ending.returned (.bool (fitsR l cs)) ∧ Below w.heap.size w w') := fun x w' h1 h2 => ⟨by rw [← hg.out, hst.out, h1], h2⟩
      cases has
      · go_wp2
        exact end_bool rfl rfl rfl rfl (hend _ _ rfl hBx)
      by_cases hp : cid ≤ p
      · have hd : decide (cid ≤ p) = true := by simpa using hp
        go_wp2
        exact end_bool rfl rfl rfl rfl (hend _ _ (if_pos hp) hBx)
      have hd : decide (cid ≤ p) = false := by simpa using hp
      cases h6 : (f.ty == 6)
      rotate_left
      · go_wp2
        exact end_bool rfl rfl rfl rfl (hend _ _ ((if_neg (by omega : ¬ cid ≤ p)).trans (if_pos h6)) hBx)
      cases nul
      rotate_left
      · go_wp2
        exact end_bool rfl rfl rfl rfl (hend _ _ ((if_neg (by omega : ¬ cid ≤ p)).trans ((if_neg (by rw [h6]; decide)).trans (by simp))) hBx)
      cases hvv : validR ⟨false, n, s⟩ f.ty
      · have hvh := Lib.hid hvv
        clear hvv
        go_wp2_with (go_at_call 29; (with_reducible refine (sValid ⟨false, n, s⟩ f.ty _ hv1 hv2).mono ?_); rintro e w9 ⟨rfl, hb9⟩; rw [hvh.out])
        exact end_bool rfl rfl rfl rfl (hend _ _ ((if_neg (by omega : ¬ cid ≤ p)).trans ((if_neg (by rw [h6]; decide)).trans (by rw [hvh.out]; rfl))) (below_of hBx hb9))
      · have hvh := Lib.hid hvv
        clear hvv
        go_wp2_with (go_at_call 29; (with_reducible refine (sValid ⟨false, n, s⟩ f.ty _ hv1 hv2).mono ?_); rintro e w9 ⟨rfl, hb9⟩; rw [hvh.out]; have r7 := q7.keep hb9; have r7z := r7.lt; have r7c0 := r7.cell 0 _ rfl; have r7c1 := r7.cell 1 _ rfl; have r7c2 := r7.cell 2 _ rfl; have r7c3 := r7.cell 3 _ rfl)
        go_roundw
        case rel => exact ⟨k + 1, cid, rfl, by go_num, by omega, Lib.hid (by rw [← hg.out, hst.out]; exact ((if_neg (by omega : ¬ cid ≤ p)).trans ((if_neg (by rw [h6]; decide)).trans (by rw [hvh.out]; rfl))).symm), below_of hBx hb9, q2.keep hb9⟩
        case measure => simp [intOf]; omega
    · go_wp2
      exact end_bool rfl rfl rfl (by rw [← hg.out, List.drop_eq_nil_of_le (by omega)]; rfl) ⟨rfl, HB⟩
end Go.Proofs.Ythcphdgfdkgimaa
