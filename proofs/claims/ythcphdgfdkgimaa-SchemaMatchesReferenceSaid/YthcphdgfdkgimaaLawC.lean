/- The walk of SchemaFitsMatchesReference. -/
import Derived.Test.YthcphdgfdkgimaaLawB
set_option linter.unusedSimpArgs false
set_option linter.unusedVariables false
namespace Go.Proofs.Ythcphdgfdkgimaa
open Go.RowKit
theorem madeGo_len : ∀ (cs : List Chg) (s : List Fld × Int) (acc : List Chg), (madeGo cs s acc).length ≤ acc.length + cs.length
  | [], s, acc => by simp [madeGo]
  | c :: r, s, acc => by
    unfold madeGo
    split
    · have := madeGo_len r (applyR s.1 s.2 (changeR s.1 s.2 c)).2 (acc ++ [changeR s.1 s.2 c])
      simp only [List.length_append, List.length_cons, List.length_nil] at this ⊢; omega
    · have := madeGo_len r s acc
      simp only [List.length_cons]; omega
theorem made_len (cs : List Chg) (n : Nat) : (madeR cs n).length ≤ n := by
  have := madeGo_len (cs.take n) ([], 1) []
  unfold madeR; rw [List.length_take] at this; simp at this; omega
theorem madeGo_oks : ∀ (cs : List Chg) (s : List Fld × Int) (acc : List Chg), oks cs → oks acc → oks (madeGo cs s acc)
  | [], s, acc, _, h => h
  | c :: r, s, acc, h1, h2 => by
    have hr : oks r := fun x hx => h1 x (.tail _ hx)
    unfold madeGo
    split
    · exact madeGo_oks r _ _ hr (fun x hx => by
        rcases List.mem_append.1 hx with hx | hx
        · exact h2 x hx
        · simp at hx; subst hx; exact changeR_ok (h1 c (.head _)))
    · exact madeGo_oks r _ _ hr h2
theorem made_oks {cs : List Chg} (h : oks cs) (n : Nat) : oks (madeR cs n) := madeGo_oks _ _ _ (fun x hx => h x (List.mem_of_mem_take hx)) (fun x hx => by simp at hx)
abbrev aftR (cs : List Chg) : List Fld := (afterR cs).1.1
abbrev aftN (cs : List Chg) : Int := (afterR cs).1.2
theorem aft_inv (cs : List Chg) : Inv (aftR cs) (aftN cs) := inv_after cs ([], 1) 0 inv_nil
theorem aft_srt (cs : List Chg) : Srt (aftR cs) := srt_after cs ([], 1) 0 inv_nil (by simp [Srt])
set_option maxRecDepth 100000 in
set_option maxHeartbeats 3200000 in
theorem law1_walk (A0 : Option Addr) (c0 : Nat) (l0 : List Chg) (A1 : Option Addr) (c1 : Nat) (raw : List Val) (c : Cel) (w : World) (hr0 : RdG w A0 l0) (ho : oks l0) (hr1 : RdV w A1 raw) (hv : ∀ v ∈ raw, v.ok) (hc : c.v.ok) :
    Calls Try.prog 3 #[.slice A0 l0.length c0, .slice A1 raw.length c1, .agg #[.int .i64 c.id, .bool c.v.nul, .int .i64 c.v.n, .string c.v.s]] w fun e w' => e = .returned (.bool true) ∧ Below w.heap.size w w' := by
  have hms := made_len l0 20
  have hmo := made_oks ho 20
  have hI := aft_inv (madeR l0 20)
  have hS := aft_srt (madeR l0 20)
  have hcs := hc.1
  go_enter Try.func3, Try.ntmps3
  go_upto_region 2 with (go_at_call 6; refine (sanity_ok _).mono ?_; rintro e w1 ⟨rfl, hb1⟩)
  refine wp_letter ?_
  intro W1 hW
  have p5 : Box W1 w.heap.size c.enc 27 := by subst hW; exact (box_new _ _ _ rfl).keep hb1
  have hB1 : Below w.heap.size w W1 := by subst hW; exact below_of (by repeat (first | exact below_refl _ | apply below_alloc | apply below_drew | apply below_drewN)) hb1
  clear hW hb1
  have hr0 := hr0.keep hB1
  have hr1 := hr1.keep hB1
  have hE : Hid (afterR (madeR l0 20) = ((aftR (madeR l0 20), aftN (madeR l0 20)), (afterR (madeR l0 20)).2.1, (afterR (madeR l0 20)).2.2)) := rfl
  have KM : Calls Try.prog 8 #[.slice A0 l0.length c0, .int .i64 20] W1 (RetG W1 (madeR l0 20)) := rMade _ _ _ 20 _ hr0 (by omega) ho
  go_upto_region 3 with (first
    | (go_at_call 8; (with_reducible refine KM.mono ?_); rintro e w2 ⟨A2, c2, rfl, hc2, hr2, hf2, hb2⟩)
    | (go_at_call 7; (with_reducible refine (rAfter _ _ _ _ hr2 (by omega) hmo).mono ?_); rintro e w3 ⟨A3, c3, rfl, hc3, hr3, hf3, hb3⟩))
  generalize madeR l0 20 = made at *
  refine wp_letter ?_
  intro W3 hW
  have p8 : Box W3 w3.heap.size [.slice A3 (aftR made).length c3, .int .i64 (aftN made)] 31 := by subst hW; exact box_new _ _ _ rfl
  have hB3 : Below W1.heap.size W1 W3 := by subst hW; exact below_alloc (below_of hb2 hb3) _
  have hr3 : RdF W3 A3 (aftR made) := by subst hW; exact hr3.keep (by repeat (first | exact below_refl _ | apply below_alloc | apply below_drew | apply below_drewN))
  clear hW hb3 hb2 hr2 hE
  have p5 := p5.keep hB3
  have hr1 := hr1.keep hB3
  have hBw := below_of hB1 hB3
  generalize aftR made = l at *
  generalize aftN made = nx at *
  have hll := hI.len
  have hl9 : l.length ≤ 900 := by omega
  have hvs : ∀ v ∈ raw, v.s.size ≤ 9223372036854775807 := fun v h => (hv v h).1
  have p5z := p5.lt; have p5c0 := p5.cell 0 _ rfl; have p5c1 := p5.cell 1 _ rfl; have p5c2 := p5.cell 2 _ rfl; have p5c3 := p5.cell 3 _ rfl; have p8z := p8.lt; have p8c0 := p8.cell 0 _ rfl; have p8c1 := p8.cell 1 _ rfl
  by_cases h5 : 500 < (c.v.s.size : Int)
  · go_wp2
    exact end_bool rfl rfl rfl rfl ⟨rfl, hBw⟩
  go_upto_region 6 with (go_at_call 9; (with_reducible refine (rRow _ _ _ _ _ _ raw _ hr3 hr1 hl9 hvs).mono ?_); rintro e w4 ⟨A4, c4, rfl, hc4, hr4, hf4, hb4⟩)
  have hrow := row_len l raw
  have hrk := row_ok hv (l := l)
  have hrf := Lib.hid (row_fits hI hS raw)
  generalize rowR l raw = row at *
  refine wp_letter ?_
  intro W4 hW
  have p11 : Box W4 w4.heap.size [.slice A4 row.length c4] 38 := by subst hW; exact box_new _ _ _ rfl
  have hB4 : Below W3.heap.size W3 W4 := by subst hW; exact below_alloc hb4 _
  have hr4 : RdC W4 A4 row := by subst hW; exact hr4.keep (by repeat (first | exact below_refl _ | apply below_alloc | apply below_drew | apply below_drewN))
  clear hW hb4 p5c0 p5c1 p5c2 p5c3 p8c0 p8c1
  have p5 := p5.keep hB4
  have p8 := p8.keep hB4
  have hr3 := hr3.keep hB4
  have hBw := below_of hBw hB4
  have p5z := p5.lt; have p5c0 := p5.cell 0 _ rfl; have p5c1 := p5.cell 1 _ rfl; have p5c2 := p5.cell 2 _ rfl; have p5c3 := p5.cell 3 _ rfl; have p8z := p8.lt; have p8c0 := p8.cell 0 _ rfl; have p8c1 := p8.cell 1 _ rfl; have p11z := p11.lt; have p11c0 := p11.cell 0 _ rfl
  go_upto_region 8 with (go_at_call 10; (with_reducible refine (sFits _ _ _ _ _ _ _ _ hr3 hr4 hrk hI.ids).mono ?_); rintro e w5 ⟨rfl, hb5⟩; rw [hrf.out])
  have q5 := p5.keep hb5
  have q8 := p8.keep hb5
  have q11 := p11.keep hb5
  have hr3 := hr3.keep hb5
  have hr4 := hr4.keep hb5
  have hBw := below_of hBw hb5
  clear p5c0 p5c1 p5c2 p5c3 p8c0 p8c1 p11c0
  have q5z := q5.lt; have q5c0 := q5.cell 0 _ rfl; have q5c1 := q5.cell 1 _ rfl; have q5c2 := q5.cell 2 _ rfl; have q5c3 := q5.cell 3 _ rfl; have q8z := q8.lt; have q8c0 := q8.cell 0 _ rfl; have q8c1 := q8.cell 1 _ rfl; have q11z := q11.lt; have q11c0 := q11.cell 0 _ rfl
  have hOL := Own.lit Cel.enc 4 w5 (base := w5.heap.size) (g := w5.heap.size) 27 (Nat.le_refl _) rfl
  go_upto_region 9 with (at_builtin; refine wpl_append_rd (l0 := []) (l := row) (enc := Cel.enc) Cel.len (fun _ => rfl) rfl _ _ 36 27 _ 40 rfl Try.underlying36 infoC rfl (by omega) (by omega) (by rfl) (by rfl) hOL (hr4.keep (by repeat (first | exact below_refl _ | apply below_alloc | apply below_drew | apply below_drewN))) (by first | omega | (simp; done) | (simp; omega)) (by first | omega | (simp; done) | (simp; omega)) ?_; intro A5 c5 w6 HO6 hg6)
  rw [List.nil_append] at HO6
  refine wp_letter ?_
  intro W6 hW
  have hB6 : Below w5.heap.size w5 w6 := (below_alloc (below_refl w5) _).grown hg6 (by simp) (by simp [Value.ownBlock])
  have p12 : Box W6 w6.heap.size [.slice A5 row.length c5] 38 := by subst hW; exact box_new _ _ _ rfl
  have hB6' : Below w5.heap.size w5 W6 := by subst hW; exact below_alloc hB6 _
  have HO6' : Own Cel.enc 4 W6 w5.heap.size 27 (.slice A5 row.length c5) row := by subst hW; (try simp only [List.length_nil, Nat.zero_add] at HO6); exact HO6.kept (by repeat (first | exact below_refl _ | apply below_alloc | apply below_drew | apply below_drewN))
  clear hW HO6 hg6 q5c0 q5c1 q5c2 q5c3 q8c0 q8c1 q11c0
  have s5 := q5.keep hB6'
  have hB6z := hB6'.size
  have hB6s := hB6.size
  have s5z := s5.lt; have s5c0 := s5.cell 0 _ rfl; have s5c1 := s5.cell 1 _ rfl; have s5c2 := s5.cell 2 _ rfl; have s5c3 := s5.cell 3 _ rfl; have p12z := p12.lt; have p12c0 := p12.cell 0 _ rfl; have p12f0 := p12.frozen 0
  go_upto_region 10 with (at_builtin; refine wpl_pushb c (enc := Cel.enc) (g := W6.heap.size) Cel.len rfl rfl _ _ 36 27 _ 40 rfl Try.underlying36 infoC rfl (by omega) (by omega) (by rfl) (by rfl) (box_new _ _ _ (by simp)) (HO6'.kept (below_alloc (below_refl _) _)) (below_alloc hB6' _) (by first | omega | (simp; done) | (simp; omega)) (by first | omega | (simp; done) | (simp; omega)) (by first | omega | (simp; done) | (simp; omega)) ?_; intro A7 c7 w9 HO7 HB7 hg7; have r12 := (p12.alloc _).grown hg7 (HO6'.ne_type p12 (by decide)); have r12z := r12.lt; have r12c0 := r12.cell 0 _ rfl; have r12f0 := r12.frozen 0)
  refine wp_letter ?_
  intro W9 hW
  have hB9 : Below w5.heap.size w5 W9 := by subst hW; exact HB7.setCell (by simp; omega) _
  have hr9 : RdC W9 A7 (row ++ [c]) := by
    subst hW
    obtain ⟨A8, c8, he, _, hr8, hf8⟩ := HO7.rd Cel.len (by simp; omega)
    rw [List.length_append] at he
    have he' : A7 = A8 := by injection he
    rw [he']
    obtain ⟨hx1, hx2⟩ := hr8
    refine ⟨hx1, hx2.imp id ?_⟩
    rintro ⟨b, o, rfl, hcc⟩
    refine ⟨b, o, rfl, fun j x i u hj hi => ?_⟩
    have h9 := hcc j x i u hj hi
    have hne : b ≠ w6.heap.size := by
      intro e
      have := HO7.ne_type r12 (by decide)
      subst he'
      rw [e] at h9 hf8
      rcases HO7.2 with ⟨hz, _⟩ | ⟨g, cap, cur, hz, _⟩
      · cases hz
      · injection hz with hz1; injection hz1 with hz1; injection hz1 with hz1; exact this (by simp [Value.ownBlock, hz1.symm, e])
    unfold World.cell? at h9 ⊢
    rw [Below.heap_setCell w9 _ _ b (by simpa using hne)]
    exact h9
  have t12 : Box W9 w6.heap.size [.slice A7 (row.length + 1) c7] 38 := by subst hW; exact r12.set 0 _
  clear hW s5c0 s5c1 s5c2 s5c3 p12c0 p12f0 r12c0 r12f0 HO7 hg7
  have t5 := q5.keep hB9
  have t8 := q8.keep hB9
  have hr3 := hr3.keep hB9
  have hBw := below_of hBw hB9
  have t5z := t5.lt; have t5c0 := t5.cell 0 _ rfl; have t5c1 := t5.cell 1 _ rfl; have t5c2 := t5.cell 2 _ rfl; have t5c3 := t5.cell 3 _ rfl; have t8z := t8.lt; have t8c0 := t8.cell 0 _ rfl; have t8c1 := t8.cell 1 _ rfl; have t12z := t12.lt; have t12c0 := t12.cell 0 _ rfl
  have hch : ∀ x ∈ row ++ [c], x.v.ok := fun x hx => by
    rcases List.mem_append.1 hx with h | h
    · exact hrk x h
    · simp at h; subst h; exact hc
  have hch2 : ∀ x ∈ [c], x.v.ok := fun x hx => by simp at hx; subst hx; exact hc
  have KS1 : ∀ w', Below W9.heap.size W9 w' → Calls Try.prog 10 #[.agg #[.slice A3 l.length c3, .int .i64 nx], .agg #[.slice A7 (row.length + 1) c7]] w' fun e w'' => e = .returned (.bool (fitsR l (row ++ [c]))) ∧ Below w'.heap.size w' w'' := fun w' h => by
    have h2 := sFits A3 c3 l nx A7 c7 (row ++ [c]) w' (hr3.keep h) (hr9.keep h) hch hI.ids
    rw [List.length_append] at h2; exact h2
  have KR1 : ∀ w', Below W9.heap.size W9 w' → Calls Try.prog 11 #[.agg #[.slice A3 l.length c3, .int .i64 nx], .agg #[.slice A7 (row.length + 1) c7]] w' fun e w'' => e = .returned (.bool (fitsR l (row ++ [c]))) ∧ Below w'.heap.size w' w'' := fun w' h => by
    have h2 := rFits A3 c3 l nx A7 c7 (row ++ [c]) w' (hr3.keep h) (hr9.keep h) (fun x hx => (hch x hx).1)
    rw [List.length_append] at h2; exact h2
  have KS2 : ∀ w' g, Below W9.heap.size W9 w' → Box w' g [.int .i64 c.id, .bool c.v.nul, .int .i64 c.v.n, .string c.v.s] 27 → Calls Try.prog 10 #[.agg #[.slice A3 l.length c3, .int .i64 nx], .agg #[.slice (some ⟨g, 0, none⟩) 1 1]] w' fun e w'' => e = .returned (.bool (fitsR l [c])) ∧ Below w'.heap.size w' w'' := fun w' g h hb =>
    sFits A3 c3 l nx _ 1 [c] w' (hr3.keep h) (rd_box (xs := [c]) Cel.len hb (by simp)) hch2 hI.ids
  have KR2 : ∀ w' g, Below W9.heap.size W9 w' → Box w' g [.int .i64 c.id, .bool c.v.nul, .int .i64 c.v.n, .string c.v.s] 27 → Calls Try.prog 11 #[.agg #[.slice A3 l.length c3, .int .i64 nx], .agg #[.slice (some ⟨g, 0, none⟩) 1 1]] w' fun e w'' => e = .returned (.bool (fitsR l [c])) ∧ Below w'.heap.size w' w'' := fun w' g h hb =>
    rFits A3 c3 l nx _ 1 [c] w' (hr3.keep h) (rd_box (xs := [c]) Cel.len hb (by simp)) (fun x hx => (hch2 x hx).1)
  generalize fitsR l (row ++ [c]) = f1 at *
  generalize fitsR l [c] = f2 at *
  refine region_ord (fun w' => Below W9.heap.size W9 w') [23] (.q 0 (.q 1 (.q 2 (.q 3 (.q 5 (.q 6 (.g 4 (.g 7 (.q 8 (.q 9 (.q 10 (.q 11 (.q 12 (.q 16 (.q 17 (.two 13 18 (.q 14 (.two 15 18 (.g 18 (.q 19 (.g 20 (.q 21 (.q 22 (.g 23 .e)))))) (.q 19 (.g 15 (.g 20 (.q 21 (.q 22 (.g 23 .e)))))))) (.q 19 (.g 13 (.q 14 (.g 15 (.g 20 (.q 21 (.q 22 (.g 23 .e)))))))))))))))))))))))) (by kernel_rfl) (by kernel_rfl) (fun _ _ d _ _ h => by cases d <;> exact h) (by repeat (first | exact below_refl _ | apply below_alloc | apply below_drew | apply below_drewN)) ?_
  repeat (refine ord_q (v := ?_) rfl (by rfl) ?_ ?_; rotate_left; (focus (intro w' hS; have s0 := cell_keep hS t8c0; have s1 := cell_keep hS t8c1; have s2 := cell_keep hS t12c0; have s3 := cell_keep hS t5c0; have s4 := cell_keep hS t5c1; have s5 := cell_keep hS t5c2; have s6 := cell_keep hS t5c3; go_simp; exact rfl)); simp only [Act.put, List.setIfInBounds_toArray, List.set_cons_zero, List.set_cons_succ, List.getElem_toArray, List.getElem_cons_zero, List.getElem_cons_succ])
  refine ord_g (by rfl) (by rfl) ?_; intro K hK; go_simp; (with_reducible refine (KS1 _ (by repeat (first | exact below_refl _ | apply below_alloc | apply below_drew | apply below_drewN))).mono ?_); rintro e xa ⟨rfl, ha⟩; have ha := below_of (by exact (by repeat (first | exact below_refl _ | apply below_alloc | apply below_drew | apply below_drewN)) : Below W9.heap.size W9 W9.drew) ha; refine hK.out _ _ ha ?_; (try simp only [Act.put, List.setIfInBounds_toArray, List.set_cons_zero, List.set_cons_succ, List.getElem_toArray, List.getElem_cons_zero, List.getElem_cons_succ])
  refine ord_g (by rfl) (by rfl) ?_; intro K hK; go_simp; (with_reducible refine (KR1 _ ha).mono ?_); rintro e xb ⟨rfl, hb⟩; have hb := below_of (ha) hb; refine hK.out _ _ hb ?_; (try simp only [Act.put, List.setIfInBounds_toArray, List.set_cons_zero, List.set_cons_succ, List.getElem_toArray, List.getElem_cons_zero, List.getElem_cons_succ])
  repeat (refine ord_q (v := ?_) rfl (by rfl) ?_ ?_; rotate_left; (focus (intro w' hS; have s0 := cell_keep hS t8c0; have s1 := cell_keep hS t8c1; have s2 := cell_keep hS t12c0; have s3 := cell_keep hS t5c0; have s4 := cell_keep hS t5c1; have s5 := cell_keep hS t5c2; have s6 := cell_keep hS t5c3; go_simp; exact rfl)); simp only [Act.put, List.setIfInBounds_toArray, List.set_cons_zero, List.set_cons_succ, List.getElem_toArray, List.getElem_cons_zero, List.getElem_cons_succ])
  refine ord_two rfl rfl (by rfl) (by rfl) ?_ ?_
  · intro K hK; go_simp; refine hK.out _ _ (below_alloc hb _) ?_; (try simp only [Act.put, List.setIfInBounds_toArray, List.set_cons_zero, List.set_cons_succ, List.getElem_toArray, List.getElem_cons_zero, List.getElem_cons_succ])
    have hb2 := below_alloc hb (.cells #[.int .i64 c.id, .bool c.v.nul, .int .i64 c.v.n, .string c.v.s] 27)
    have hg := box_new xb [.int .i64 c.id, .bool c.v.nul, .int .i64 c.v.n, .string c.v.s] 27 rfl
    repeat (refine ord_q (v := ?_) rfl (by rfl) ?_ ?_; rotate_left; (focus (intro w' hS; go_simp; exact rfl)); simp only [Act.put, List.setIfInBounds_toArray, List.set_cons_zero, List.set_cons_succ, List.getElem_toArray, List.getElem_cons_zero, List.getElem_cons_succ])
    refine ord_two rfl rfl (by rfl) (by rfl) ?_ ?_
    · intro K hK; go_simp; (with_reducible refine (KS2 _ _ hb2 hg).mono ?_); rintro e xd ⟨rfl, hd⟩; have hd := below_of hb2 hd; refine hK.out _ _ hd ?_; (try simp only [Act.put, List.setIfInBounds_toArray, List.set_cons_zero, List.set_cons_succ, List.getElem_toArray, List.getElem_cons_zero, List.getElem_cons_succ])
      refine ord_g (by rfl) (by rfl) ?_; intro K hK; go_simp; refine hK.out _ _ (below_alloc hd _) ?_; (try simp only [Act.put, List.setIfInBounds_toArray, List.set_cons_zero, List.set_cons_succ, List.getElem_toArray, List.getElem_cons_zero, List.getElem_cons_succ])
      repeat (refine ord_q (v := ?_) rfl (by rfl) ?_ ?_; rotate_left; (focus (intro w' hS; go_simp; exact rfl)); simp only [Act.put, List.setIfInBounds_toArray, List.set_cons_zero, List.set_cons_succ, List.getElem_toArray, List.getElem_cons_zero, List.getElem_cons_succ])
      refine ord_g (by rfl) (by rfl) ?_; intro K hK; go_simp; (with_reducible refine (KR2 _ _ (below_alloc hd _) (box_new xd [.int .i64 c.id, .bool c.v.nul, .int .i64 c.v.n, .string c.v.s] 27 rfl)).mono ?_); rintro e xe ⟨rfl, he⟩; have he := below_of (below_alloc hd _) he; refine hK.out _ _ he ?_; (try simp only [Act.put, List.setIfInBounds_toArray, List.set_cons_zero, List.set_cons_succ, List.getElem_toArray, List.getElem_cons_zero, List.getElem_cons_succ])
      repeat (refine ord_q (v := ?_) rfl (by rfl) ?_ ?_; rotate_left; (focus (intro w' hS; go_simp; exact rfl)); simp only [Act.put, List.setIfInBounds_toArray, List.set_cons_zero, List.set_cons_succ, List.getElem_toArray, List.getElem_cons_zero, List.getElem_cons_succ])
      refine ord_l (by rfl) rfl (by rfl) ?_; intro K hK; go_simp; refine hK.out _ _ ?_
      refine ord_e ?_
      go_wp2
      exact end_bool rfl rfl rfl rfl ⟨rfl, below_of hBw he⟩
    · intro K hK; go_simp; refine hK.out _ _ (below_alloc hb2 _) ?_; (try simp only [Act.put, List.setIfInBounds_toArray, List.set_cons_zero, List.set_cons_succ, List.getElem_toArray, List.getElem_cons_zero, List.getElem_cons_succ])
      repeat (refine ord_q (v := ?_) rfl (by rfl) ?_ ?_; rotate_left; (focus (intro w' hS; go_simp; exact rfl)); simp only [Act.put, List.setIfInBounds_toArray, List.set_cons_zero, List.set_cons_succ, List.getElem_toArray, List.getElem_cons_zero, List.getElem_cons_succ])
      refine ord_g (by rfl) (by rfl) ?_; intro K hK; go_simp; (with_reducible refine (KS2 _ _ (below_alloc hb2 _) (hg.alloc _)).mono ?_); rintro e xd ⟨rfl, hd0⟩; have hd := below_of (below_alloc hb2 _) hd0; refine hK.out _ _ hd ?_; (try simp only [Act.put, List.setIfInBounds_toArray, List.set_cons_zero, List.set_cons_succ, List.getElem_toArray, List.getElem_cons_zero, List.getElem_cons_succ])
      refine ord_g (by rfl) (by rfl) ?_; intro K hK; go_simp; (with_reducible refine (KR2 _ _ hd ((box_new _ [.int .i64 c.id, .bool c.v.nul, .int .i64 c.v.n, .string c.v.s] 27 (by simp)).keep hd0)).mono ?_); rintro e xe ⟨rfl, he⟩; have he := below_of hd he; refine hK.out _ _ he ?_; (try simp only [Act.put, List.setIfInBounds_toArray, List.set_cons_zero, List.set_cons_succ, List.getElem_toArray, List.getElem_cons_zero, List.getElem_cons_succ])
      repeat (refine ord_q (v := ?_) rfl (by rfl) ?_ ?_; rotate_left; (focus (intro w' hS; go_simp; exact rfl)); simp only [Act.put, List.setIfInBounds_toArray, List.set_cons_zero, List.set_cons_succ, List.getElem_toArray, List.getElem_cons_zero, List.getElem_cons_succ])
      refine ord_l (by rfl) rfl (by rfl) ?_; intro K hK; go_simp; refine hK.out _ _ ?_
      refine ord_e ?_
      go_wp2
      exact end_bool rfl rfl rfl rfl ⟨rfl, below_of hBw he⟩
  · intro K hK; go_simp; refine hK.out _ _ (below_alloc hb _) ?_; (try simp only [Act.put, List.setIfInBounds_toArray, List.set_cons_zero, List.set_cons_succ, List.getElem_toArray, List.getElem_cons_zero, List.getElem_cons_succ])
    have hb2 := below_alloc hb (.cells #[.int .i64 c.id, .bool c.v.nul, .int .i64 c.v.n, .string c.v.s] 27)
    have hg := box_new xb [.int .i64 c.id, .bool c.v.nul, .int .i64 c.v.n, .string c.v.s] 27 rfl
    repeat (refine ord_q (v := ?_) rfl (by rfl) ?_ ?_; rotate_left; (focus (intro w' hS; go_simp; exact rfl)); simp only [Act.put, List.setIfInBounds_toArray, List.set_cons_zero, List.set_cons_succ, List.getElem_toArray, List.getElem_cons_zero, List.getElem_cons_succ])
    refine ord_g (by rfl) (by rfl) ?_; intro K hK; go_simp; refine hK.out _ _ (below_alloc hb2 _) ?_; (try simp only [Act.put, List.setIfInBounds_toArray, List.set_cons_zero, List.set_cons_succ, List.getElem_toArray, List.getElem_cons_zero, List.getElem_cons_succ])
    repeat (refine ord_q (v := ?_) rfl (by rfl) ?_ ?_; rotate_left; (focus (intro w' hS; go_simp; exact rfl)); simp only [Act.put, List.setIfInBounds_toArray, List.set_cons_zero, List.set_cons_succ, List.getElem_toArray, List.getElem_cons_zero, List.getElem_cons_succ])
    refine ord_g (by rfl) (by rfl) ?_; intro K hK; go_simp; (with_reducible refine (KS2 _ _ (below_alloc hb2 _) (box_new _ [.int .i64 c.id, .bool c.v.nul, .int .i64 c.v.n, .string c.v.s] 27 (by simp))).mono ?_); rintro e xd ⟨rfl, hd0⟩; have hd := below_of (below_alloc hb2 _) hd0; refine hK.out _ _ hd ?_; (try simp only [Act.put, List.setIfInBounds_toArray, List.set_cons_zero, List.set_cons_succ, List.getElem_toArray, List.getElem_cons_zero, List.getElem_cons_succ])
    refine ord_g (by rfl) (by rfl) ?_; intro K hK; go_simp; (with_reducible refine (KR2 _ _ hd ((hg.alloc _).keep hd0)).mono ?_); rintro e xe ⟨rfl, he⟩; have he := below_of hd he; refine hK.out _ _ he ?_; (try simp only [Act.put, List.setIfInBounds_toArray, List.set_cons_zero, List.set_cons_succ, List.getElem_toArray, List.getElem_cons_zero, List.getElem_cons_succ])
    repeat (refine ord_q (v := ?_) rfl (by rfl) ?_ ?_; rotate_left; (focus (intro w' hS; go_simp; exact rfl)); simp only [Act.put, List.setIfInBounds_toArray, List.set_cons_zero, List.set_cons_succ, List.getElem_toArray, List.getElem_cons_zero, List.getElem_cons_succ])
    refine ord_l (by rfl) rfl (by rfl) ?_; intro K hK; go_simp; refine hK.out _ _ ?_
    refine ord_e ?_
    go_wp2
    exact end_bool rfl rfl rfl rfl ⟨rfl, below_of hBw he⟩
end Go.Proofs.Ythcphdgfdkgimaa
