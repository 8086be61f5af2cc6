/- Package schema, part U: numbers along changes; New, After. -/
import Derived.Test.YthcphdgfdkgimaaSchT
set_option linter.unusedSimpArgs false
set_option linter.unusedVariables false
namespace Go.Proofs.Ythcphdgfdkgimaa
open Go.RowKit
theorem nums_nil (nx : Int) : Nums [] nx := ⟨by simp, fun f hf => by simp at hf⟩
theorem nums_plus {l : List Fld} {nx : Int} (h : Nums l nx) (h1 : 1 ≤ nx) (f : Fld) : Nums (plusR l nx f) (nx + 1) := by
  refine ⟨?_, ?_⟩
  · unfold plusR
    rw [List.map_append, List.nodup_append]
    refine ⟨h.1, by simp, fun a ha b hb => ?_⟩
    obtain ⟨g, hg, rfl⟩ := List.mem_map.1 ha
    have := (h.2 g hg).2
    simp at hb; omega
  · intro g hg
    unfold plusR at hg
    rcases List.mem_append.1 hg with hg | hg
    · have := h.2 g hg; omega
    · simp at hg; subst hg; simp; omega
theorem nums_without {l : List Fld} {nx : Int} (h : Nums l nx) (x y : Int) : Nums (withoutR l x y) nx :=
  ⟨(List.Sublist.map _ List.filter_sublist).nodup h.1, fun f hf => h.2 f (List.mem_filter.1 hf).1⟩
theorem with_ids (l : List Fld) (f : Fld) : (withR l f).map (·.id) = l.map (·.id) := by
  unfold withR
  rw [List.map_map]
  apply List.map_congr_left
  intro g _
  simp only [Function.comp_apply]
  split
  · rename_i h; simpa using (beq_iff_eq.1 h).symm
  · rfl
theorem nums_with {l : List Fld} {nx : Int} (h : Nums l nx) (f : Fld) : Nums (withR l f) nx := by
  refine ⟨by rw [with_ids]; exact h.1, fun g hg => ?_⟩
  have : g.id ∈ (withR l f).map (·.id) := List.mem_map.2 ⟨g, hg, rfl⟩
  rw [with_ids] at this
  obtain ⟨g2, hg2, e⟩ := List.mem_map.1 this
  rw [← e]; exact h.2 g2 hg2
theorem applyR_nums {l : List Fld} {nx : Int} {c : Chg} (h : Nums l nx) (h1 : 1 ≤ nx) (h0 : (applyR l nx c).1 = 0) : Nums (applyR l nx c).2.1 (applyR l nx c).2.2 := by
  have a1 : ∀ r, r = addR l nx c → r.1 = 0 → Nums r.2.1 r.2.2 := by
    intro r hr h0; unfold addR at hr
    repeat' split at hr
    all_goals subst hr
    all_goals first | (exact absurd h0 (by decide)) | exact nums_plus h h1 _
  have a2 : ∀ f p r, r = moveR l nx f p → r.1 = 0 → Nums r.2.1 r.2.2 := by
    intro f p r hr h0; unfold moveR at hr
    repeat' split at hr
    all_goals subst hr
    all_goals first | (exact absurd h0 (by decide)) | exact nums_with h _
  have a3 : ∀ r, r = oneR l nx c → r.1 = 0 → Nums r.2.1 r.2.2 := by
    intro r hr h0; unfold oneR at hr
    repeat' split at hr
    all_goals first | exact a2 _ _ _ hr h0 | skip
    all_goals subst hr
    all_goals first | (exact absurd h0 (by decide)) | exact nums_with h _ | exact nums_without h _ _
  have a4 : ∀ r, r = splitR l nx c → r.1 = 0 → Nums r.2.1 r.2.2 := by
    intro r hr h0; unfold splitR at hr
    repeat' split at hr
    all_goals subst hr
    all_goals first | (exact absurd h0 (by decide)) | exact nums_plus (nums_plus (nums_without h _ _) h1 _) (by omega) _
  have a5 : ∀ r, r = joinR l nx c → r.1 = 0 → Nums r.2.1 r.2.2 := by
    intro r hr h0; unfold joinR at hr
    repeat' split at hr
    all_goals subst hr
    all_goals first | (exact absurd h0 (by decide)) | exact nums_plus (nums_without h _ _) h1 _
  generalize hr : applyR l nx c = r at *
  unfold applyR at hr
  repeat' split at hr
  all_goals first | exact a1 _ hr.symm h0 | exact a3 _ hr.symm h0 | exact a4 _ hr.symm h0 | exact a5 _ hr.symm h0 | (subst hr; exact absurd h0 (by decide))
set_option maxHeartbeats 400000 in
theorem sNew (w : World) : Calls Try.prog 26 #[] w fun e w' => e = .returned (.agg #[.slice none 0 0, .int .i64 1]) ∧ Below w.heap.size w w' := by
  go_enter Try.func26, Try.ntmps26
  go_wp2
  exact end_cell (t := 31) rfl rfl (box_new w [.slice none 0 0, .int .i64 1] 31 rfl) Try.underlying31 rfl rfl rfl ⟨rfl, (by repeat (first | exact below_refl _ | apply below_alloc | apply below_drew | apply below_drewN))⟩
set_option maxRecDepth 100000 in
set_option maxHeartbeats 1600000 in
theorem sAfter (A0 : Option Addr) (c0 : Nat) (cs : List Chg) (w : World) (hr : RdG w A0 cs) (hl : cs.length ≤ 400) (hs : oks cs) :
    Calls Try.prog 12 #[.slice A0 cs.length c0] w (RetA w (afterR cs)) := by
  go_enter Try.func12, Try.ntmps12
  go_upto_region 2 with (go_at_call 26; refine (sNew _).mono ?_; rintro e w1 ⟨rfl, hb⟩)
  have hz := hb.size
  simp at hz
  refine wp_letter ?_
  intro W hW
  have h0 : Box W w.heap.size [.slice none 0 0, .int .i64 0] 31 := by subst hW; exact (((box_new _ _ _ rfl).keep hb)).alloc _
  have h1 : Box W w1.heap.size [.slice none 0 0, .int .i64 1] 31 := by subst hW; exact box_new _ _ _ rfl
  have hB : Below w.heap.size w W := by subst hW; exact below_alloc (below_of (by repeat (first | exact below_refl _ | apply below_alloc | apply below_drew | apply below_drewN)) hb) _
  have hz1 : w.heap.size < w1.heap.size := by omega
  clear hW
  go_wp2
  go_loopw [13] (fun i wr => ∃ (k : Nat) (A : Option Addr) (cp : Nat) (l : List Fld) (nx : Int), i = .int .i64 k ∧ k ≤ cs.length ∧ Hid (afterGo (cs.drop k) (l, nx) k = afterR cs) ∧ Below w.heap.size w wr ∧ Box wr w.heap.size [.slice none 0 0, .int .i64 0] 31 ∧ Box wr w1.heap.size [.slice A l.length cp, .int .i64 nx] 31 ∧ l.length ≤ cp ∧ RdF wr A l ∧ Frm (w.heap.size + 1) A ∧ l.length ≤ 2 * k ∧ 1 ≤ nx ∧ nx ≤ 1 + 2 * k ∧ fsok l ∧ Nums l nx) (fun i _ => cs.length - (intOf i).toNat)
  case atStart => exact ⟨0, none, 0, [], 1, rfl, by omega, rfl, hB, h0, h1, Nat.le_refl _, Rd.nil _ _ _ _, Frm.none _, by simp, by omega, by omega, fun f hf => by simp at hf, nums_nil _⟩
  case round =>
    obtain ⟨k, A, cp, l, nx, rfl, hk, hgo, HB, k0, k1, hcp, hrl, hfl, hll, hnx0, hnx1, hfs, hN⟩ := hrel
    have k0z := k0.lt; have k0c0 := k0.cell 0 _ rfl; have k0f0 := k0.frozen 0; have k0c1 := k0.cell 1 _ rfl; have k0f1 := k0.frozen 1; have k1z := k1.lt; have k1c0 := k1.cell 0 _ rfl; have k1f0 := k1.frozen 0; have k1c1 := k1.cell 1 _ rfl; have k1f1 := k1.frozen 1
    by_cases hlt : k < cs.length
    · obtain ⟨b, o, rfl, hbw, hb, f0, f1, f2, f3, f4, f5, f6, f7⟩ := RdG.atk hr HB k hlt
      have hi0 : (0 : Int) ≤ (k : Int) := by omega
      have hi1 : (k : Int) < (cs.length : Int) := by omega
      have hst := Lib.hid (afterGo_step hlt (l, nx))
      have hgr := Lib.hid (applyR_grows l nx cs[k])
      have hfr := Lib.hid (applyR_fsok (nx := nx) hfs (hs cs[k] (List.getElem_mem hlt)))
      have hnr := Lib.hid (applyR_nums (c := cs[k]) hN hnx0)
      have hck := hs cs[k] (List.getElem_mem hlt)
      have hl9 : l.length ≤ 900 := by omega
      have hn9 : 0 ≤ nx ∧ nx ≤ 100000000000 := by omega
      go_upto_region 5 with (fail)
      refine wp_letter ?_
      intro W5 hW
      have p7 : Box W5 wr.heap.size cs[k].enc 43 := by subst hW; exact box_new _ _ _ rfl
      have hB5 : Below wr.heap.size wr W5 := by subst hW; exact (by repeat (first | exact below_refl _ | apply below_alloc | apply below_drew | apply below_drewN))
      clear hW
      have p0 := k0.keep hB5
      have p1 := k1.keep hB5
      have hr5 := hrl.keep hB5
      clear f0 f1 f2 f3 f4 f5 f6 f7 k0c0 k0c1 k0f0 k0f1 k1c0 k1c1 k1f0 k1f1
      have p0z := p0.lt; have p0c0 := p0.cell 0 _ rfl; have p0f0 := p0.frozen 0; have p0c1 := p0.cell 1 _ rfl; have p0f1 := p0.frozen 1; have p1z := p1.lt; have p1c0 := p1.cell 0 _ rfl; have p1f0 := p1.frozen 0; have p1c1 := p1.cell 1 _ rfl; have p1f1 := p1.frozen 1; have p7z := p7.lt; have p7c0 := p7.cell 0 _ rfl; have p7c1 := p7.cell 1 _ rfl; have p7c2 := p7.cell 2 _ rfl; have p7c3 := p7.cell 3 _ rfl; have p7c4 := p7.cell 4 _ rfl; have p7c5 := p7.cell 5 _ rfl; have p7c6 := p7.cell 6 _ rfl; have p7c7 := p7.cell 7 _ rfl
      go_upto_region 6 with (go_at_call 14; (with_reducible refine (sApply _ _ _ _ cs[k] _ hr5 hl9 hn9 hN hck hfs).mono ?_); rintro e wa ⟨A1, c1, rfl, hc1, hr1, hf1, hba⟩)
      refine wp_letter ?_
      intro W6 hW
      have q8 : Box W6 wa.heap.size [.slice A1 (applyR l nx cs[k]).2.1.length c1, .int .i64 (applyR l nx cs[k]).2.2] 31 := by subst hW; exact box_new _ _ _ rfl
      have hB6 : Below W5.heap.size W5 W6 := by subst hW; exact below_alloc hba _
      have hr6 : RdF W6 A1 (applyR l nx cs[k]).2.1 := by subst hW; exact hr1.keep (by repeat (first | exact below_refl _ | apply below_alloc | apply below_drew | apply below_drewN))
      clear hW
      have m0 := p0.keep hB6
      have m2 := p1.keep hB6
      have hrl6 := hr5.keep hB6
      have hBc := below_of (below_of HB hB5) hB6
      clear p0c0 p0c1 p0f0 p0f1 p1c0 p1c1 p1f0 p1f1 p7c0 p7c1 p7c2 p7c3 p7c4 p7c5 p7c6 p7c7 hr1
      generalize hR : applyR l nx cs[k] = r at *
      have m0z := m0.lt; have m0c0 := m0.cell 0 _ rfl; have m0f0 := m0.frozen 0; have m0c1 := m0.cell 1 _ rfl; have m0f1 := m0.frozen 1; have m2z := m2.lt; have m2c0 := m2.cell 0 _ rfl; have m2f0 := m2.frozen 0; have m2c1 := m2.cell 1 _ rfl; have m2f1 := m2.frozen 1; have q8z := q8.lt; have q8c0 := q8.cell 0 _ rfl; have q8c1 := q8.cell 1 _ rfl
      go_wp2
      · have hne : (r.1 != 0) = true := by assumption
        have hv : Hid (afterR cs = ((l, nx), k, r.1)) := by rw [← hgo.out, hst.out]; rw [if_pos hne]; exact rfl
        exact end_cell_tmp2 (t := 31) rfl rfl rfl rfl ((m0.set 0 _).set 1 _) Try.underlying31 rfl rfl rfl (retA hv.out hcp ((hrl6.far hfl (by simp) _).far hfl (by simp) _) (hfl.le (by omega)) (below_set (below_set hBc (by first | omega | (simp; done) | (simp; omega)) _) (by first | omega | (simp; done) | (simp; omega)) _))
      · have hne : (r.1 != 0) = false := by assumption
        have h0r : r.1 = 0 := by simpa using hne
        obtain ⟨hg1, hg2⟩ := hgr.out
        obtain ⟨hg3, hg4⟩ := hg2 h0r
        have hv : Hid (afterGo (cs.drop (k + 1)) r.2 (k + 1) = afterR cs) := by rw [← hgo.out, hst.out]; rw [if_neg (by rw [hne]; decide)]; exact rfl
        have hB5s := hB5.size
        have hfw := hf1.le (b' := w.heap.size + 1) (by omega)
        have hfw2 := hf1.le (b' := w1.heap.size + 1) (by omega)
        go_roundw
        case rel => exact ⟨k + 1, A1, c1, r.2.1, r.2.2, by go_num, by omega, hv, below_set (below_set hBc (by first | omega | (simp; done) | (simp; omega)) _) (by first | omega | (simp; done) | (simp; omega)) _, (m0.far (by first | omega | (simp; done) | (simp; omega)) _).far (by first | omega | (simp; done) | (simp; omega)) _, (m2.set 0 _).set 1 _, hc1, (hr6.far hfw2 (by simp) _).far hfw2 (by simp) _, hfw, by omega, by omega, by omega, hfr.out, hnr.out h0r⟩
        case measure => simp [intOf]; omega
    · go_wp2
      have hfin : Hid (afterR cs = ((l, nx), k, 0)) := by rw [← hgo.out, List.drop_eq_nil_of_le (by omega)]; exact rfl
      obtain rfl : k = cs.length := by omega
      exact end_cell_tmp2 (t := 31) rfl rfl rfl rfl ((k0.set 0 _).set 1 _) Try.underlying31 rfl rfl rfl (retA hfin.out hcp ((hrl.far hfl (by simp) _).far hfl (by simp) _) (hfl.le (by omega)) (below_set (below_set HB (by first | omega | (simp; done) | (simp; omega)) _) (by first | omega | (simp; done) | (simp; omega)) _))
end Go.Proofs.Ythcphdgfdkgimaa
