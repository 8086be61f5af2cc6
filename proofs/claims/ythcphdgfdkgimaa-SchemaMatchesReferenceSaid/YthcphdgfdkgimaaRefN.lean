/- The references of fenlandref06, part N: Change (made by tools/mk_change.py). -/
import Derived.Test.YthcphdgfdkgimaaRefM
set_option linter.unusedSimpArgs false
set_option linter.unusedVariables false
namespace Go.Proofs.Ythcphdgfdkgimaa
open Go.RowKit
theorem modR_in {x n : Int} (h1 : n ≤ 1099511627776) : 0 ≤ modR x n ∧ (0 < n → modR x n < n) ∧ (n ≤ 0 → modR x n = 0) := by
  unfold modR
  by_cases h : n ≤ 0
  · rw [if_pos h]; exact ⟨by omega, fun h2 => by omega, fun _ => rfl⟩
  · rw [if_neg h]
    have a := Int.tmod_lt_of_pos x (show 0 < n by omega)
    have b : -n < Int.tmod x n := by
      have := Int.lt_tmod_of_pos x (show 0 < n by omega)
      omega
    have e : wrap64 (Int.tmod x n + n) = Int.tmod x n + n := by
      have := IntWalk.i64_in (Int.tmod x n + n) (by omega)
      rw [IntWalk.i64_left] at this; exact this
    rw [e]
    exact ⟨Int.tmod_nonneg _ (by omega), fun h2 => Int.tmod_lt_of_pos _ h2, fun h2 => absurd h2 h⟩
/-- The zero change. -/
abbrev zChg : List Value := [.int .i64 0, .int .i64 0, .int .i64 0, .string ⟨#[]⟩, .string ⟨#[]⟩, .int .i64 0, .int .i64 0, .string ⟨#[]⟩]
theorem box_at {B W : World} (h : Below B.heap.size B W) (vs : List Value) (t : TypeId) : Box (W.alloc (.cells vs.toArray t)) W.heap.size vs t := box_new W vs t rfl
theorem box_eq {w wn : World} {b : Nat} {vs : List Value} {t : TypeId} (h : Box w b vs t) (e : wn = w) : Box wn b vs t := e ▸ h
theorem below_eq {W w wn : World} (h : Below W.heap.size W w) (e : wn = w) : Below W.heap.size W wn := e ▸ h
theorem Box.set8 {w : World} {b : Nat} {t : TypeId} {a0 a1 a2 a3 a4 a5 a6 a7 : Value} (h : Box w b [a0, a1, a2, a3, a4, a5, a6, a7] t) (v0 v1 v2 v3 v4 v5 v6 v7 : Value) :
    Box ((((((((w.setCell ⟨b, 0, none⟩ v0).setCell ⟨b, 1, none⟩ v1).setCell ⟨b, 2, none⟩ v2).setCell ⟨b, 3, none⟩ v3).setCell ⟨b, 4, none⟩ v4).setCell ⟨b, 5, none⟩ v5).setCell ⟨b, 6, none⟩ v6).setCell ⟨b, 7, none⟩ v7) b [v0, v1, v2, v3, v4, v5, v6, v7] t := by
  have q0 : Box _ b [v0, a1, a2, a3, a4, a5, a6, a7] t := h.set 0 v0
  have q1 : Box _ b [v0, v1, a2, a3, a4, a5, a6, a7] t := q0.set 1 v1
  have q2 : Box _ b [v0, v1, v2, a3, a4, a5, a6, a7] t := q1.set 2 v2
  have q3 : Box _ b [v0, v1, v2, v3, a4, a5, a6, a7] t := q2.set 3 v3
  have q4 : Box _ b [v0, v1, v2, v3, v4, a5, a6, a7] t := q3.set 4 v4
  have q5 : Box _ b [v0, v1, v2, v3, v4, v5, a6, a7] t := q4.set 5 v5
  have q6 : Box _ b [v0, v1, v2, v3, v4, v5, v6, a7] t := q5.set 6 v6
  exact q6.set 7 v7
theorem below_set8 {W w : World} {b : Nat} (h : Below W.heap.size W w) (hb : W.heap.size ≤ b) (v0 v1 v2 v3 v4 v5 v6 v7 : Value) :
    Below W.heap.size W ((((((((w.setCell ⟨b, 0, none⟩ v0).setCell ⟨b, 1, none⟩ v1).setCell ⟨b, 2, none⟩ v2).setCell ⟨b, 3, none⟩ v3).setCell ⟨b, 4, none⟩ v4).setCell ⟨b, 5, none⟩ v5).setCell ⟨b, 6, none⟩ v6).setCell ⟨b, 7, none⟩ v7) :=
  below_set (below_set (below_set (below_set (below_set (below_set (below_set (below_set h hb _) hb _) hb _) hb _) hb _) hb _) hb _) hb _
def rawC (nx : Int) (c : Chg) : Chg := ⟨1 + modR c.kind 7, 1 + modR c.id nx, 1 + modR c.wit nx, nameR c.name, nameR c.other, 1 + modR c.ty 6, modR c.par nx, c.sep⟩
def sepR (s : ByteArray) : ByteArray := if sepOk s = true then s else ⟨#[45]⟩
def changeR (l : List Fld) (nx : Int) (c : Chg) : Chg := { rawC nx c with sep := sepR c.sep, par := if grp l (modR c.par nx) = true then modR c.par nx else 0 }
/-- Behind the first region. -/
def ChgAt (W : World) (nx : Int) (c : Chg) (p : Value) (wc : World) : Prop := ∃ b, p = .pointer (some ⟨b, 0, none⟩) ∧ W.heap.size ≤ b ∧ Below W.heap.size W wc ∧ Box wc b (rawC nx c).enc 43
theorem chg_rel {W w : World} {b : Nat} {nx : Int} {c : Chg} (hn : nx ≤ 1099511627776) (hbb : W.heap.size ≤ b) (hB : Below W.heap.size W w) (hbx : Box w b zChg 43) :
    ChgAt W nx c (.pointer (some ⟨b, 0, none⟩)) ((((((((w.setCell ⟨b, 0, none⟩ (.int .i64 (IntKind.i64.wrap (1 + modR c.kind 7)))).setCell ⟨b, 1, none⟩ (.int .i64 (IntKind.i64.wrap (1 + modR c.id nx)))).setCell ⟨b, 2, none⟩ (.int .i64 (IntKind.i64.wrap (1 + modR c.wit nx)))).setCell ⟨b, 3, none⟩ (.string (nameR c.name))).setCell ⟨b, 4, none⟩ (.string (nameR c.other))).setCell ⟨b, 5, none⟩ (.int .i64 (IntKind.i64.wrap (1 + modR c.ty 6)))).setCell ⟨b, 6, none⟩ (.int .i64 (modR c.par nx))).setCell ⟨b, 7, none⟩ (.string c.sep)) := by
  have e : ∀ x n : Int, n ≤ 1099511627776 → IntKind.i64.wrap (1 + modR x n) = 1 + modR x n := by
    intro x n h
    obtain ⟨a, b, d⟩ := modR_in (x := x) h
    refine IntWalk.i64_in _ ?_
    rcases Int.lt_or_le 0 n with h2 | h2
    · have := b h2; omega
    · have := d h2; omega
  rw [e _ _ (by decide), e _ _ hn, e _ _ hn, e _ _ (by decide)]
  exact ⟨b, rfl, hbb, below_set8 hB hbb _ _ _ _ _ _ _ _, hbx.set8 _ _ _ _ _ _ _ _⟩
theorem ord_letter {P : Program} {ops : Array Oper} {Q : Exit → Act → World → Prop} {S : World → Prop} {ds : List Nat} {t : Ordr} {a : Act} {W : World} (h : ∀ W', W' = W → wpOrd P ops Q S ds t a W') : wpOrd P ops Q S ds t a W := h W rfl
theorem end_row {P : Program} {fn : Func} {R : Ending → World → Prop} {a : Act} {w : World} {g : Nat} {vs : List Value} {t : TypeId} {p : Tmp} {ty : TypeId} {d : TypeDesc} {v : Value} (hv : v = .agg vs.toArray) (hr : fn.results = #[.cell p ty]) (hp : a.tmps.getD p undef = .pointer (some ⟨g, 0, none⟩)) (hb : Box w g vs t)
    (hu : P.underlying ty = some d) (hd : (match d with | .struct _ | .array _ _ => true | _ => false) = true) (hi : (P.info? ty).map (·.size) = some vs.length) (hdf : a.defers = []) (hR : R (.returned v) w) : bodyPost P fn R .ret a w := by subst hv; exact end_cell hr hp hb hu hd hi hdf hR
set_option maxRecDepth 100000 in
set_option maxHeartbeats 4000000 in
theorem rChange (A : Option Addr) (cp : Nat) (l : List Fld) (nx : Int) (c : Chg) (w : World) (hr : RdF w A l) (hn1 : nx ≤ 1099511627776) (hs : c.ok) :
    Calls Try.prog 13 #[.agg #[.slice A l.length cp, .int .i64 nx], chgV c] w (fun e w' => e = .returned (chgV (changeR l nx c)) ∧ Below w.heap.size w w') := by
  obtain ⟨hs1, hs2, hs3⟩ := hs
  have hl2 := hr.1
  go_enter Try.func13, Try.ntmps13
  go_upto_region 1 with (fail)
  refine wp_letter ?_
  intro W hW
  have h0 : Box W w.heap.size [.slice A l.length cp, .int .i64 nx] 31 := by subst hW; exact ((box_new _ _ _ rfl).alloc _).alloc _
  have h1 : Box W (w.heap.size + 1) c.enc 43 := by subst hW; exact (box_new _ _ _ (by simp)).alloc _
  have h2 : Box W (w.heap.size + 1 + 1) zChg 43 := by subst hW; exact box_new _ _ _ (by simp)
  have hBW : Below w.heap.size w W := by subst hW; exact (by repeat (first | exact below_refl _ | apply below_alloc | apply below_drew | apply below_drewN))
  clear hW
  have h0z := h0.lt; have h0c0 := h0.cell 0 _ rfl; have h0c1 := h0.cell 1 _ rfl; have h1z := h1.lt; have h1c0 := h1.cell 0 _ rfl; have h1c1 := h1.cell 1 _ rfl; have h1c2 := h1.cell 2 _ rfl; have h1c3 := h1.cell 3 _ rfl; have h1c4 := h1.cell 4 _ rfl; have h1c5 := h1.cell 5 _ rfl; have h1c6 := h1.cell 6 _ rfl; have h1c7 := h1.cell 7 _ rfl; have h2z := h2.lt; have h2c0 := h2.cell 0 _ rfl; have h2f0 := h2.frozen 0; have h2c1 := h2.cell 1 _ rfl; have h2f1 := h2.frozen 1; have h2c2 := h2.cell 2 _ rfl; have h2f2 := h2.frozen 2; have h2c3 := h2.cell 3 _ rfl; have h2f3 := h2.frozen 3; have h2c4 := h2.cell 4 _ rfl; have h2f4 := h2.frozen 4; have h2c5 := h2.cell 5 _ rfl; have h2f5 := h2.frozen 5; have h2c6 := h2.cell 6 _ rfl; have h2f6 := h2.frozen 6; have h2c7 := h2.cell 7 _ rfl; have h2f7 := h2.frozen 7
  go_cut [5] (ChgAt W nx c)
  case first =>
    refine region_ord (fun w' => Below W.heap.size W w') [35] (.q 0 (.q 1 (.q 4 (.q 5 (.q 6 (.q 7 (.q 10 (.q 11 (.q 12 (.q 13 (.q 16 (.q 17 (.q 19 (.q 20 (.q 22 (.q 23 (.q 26 (.q 27 (.q 28 (.q 29 (.q 31 (.q 32 (.two 2 34 (.q 3 (.two 8 34 (.q 9 (.two 14 34 (.q 15 (.two 18 34 (.two 21 34 (.two 24 34 (.q 25 (.two 30 34 (.q 33 (.g 34 (.g 35 .e))) (.g 30 (.q 33 (.g 35 .e))))) (.g 24 (.q 25 (.g 30 (.q 33 (.g 35 .e)))))) (.g 21 (.g 24 (.q 25 (.g 30 (.q 33 (.g 35 .e))))))) (.g 18 (.g 21 (.g 24 (.q 25 (.g 30 (.q 33 (.g 35 .e))))))))) (.g 14 (.q 15 (.g 18 (.g 21 (.g 24 (.q 25 (.g 30 (.q 33 (.g 35 .e))))))))))) (.g 8 (.q 9 (.g 14 (.q 15 (.g 18 (.g 21 (.g 24 (.q 25 (.g 30 (.q 33 (.g 35 .e))))))))))))) (.g 2 (.q 3 (.g 8 (.q 9 (.g 14 (.q 15 (.g 18 (.g 21 (.g 24 (.q 25 (.g 30 (.q 33 (.g 35 .e)))))))))))))))))))))))))))))))))))) (by kernel_rfl) (by kernel_rfl) (fun _ _ d _ _ h => by cases d <;> exact h) (by repeat (first | exact below_refl _ | apply below_alloc | apply below_drew | apply below_drewN)) ?_
    have hB : Below W.heap.size W W.drew := (by repeat (first | exact below_refl _ | apply below_alloc | apply below_drew | apply below_drewN))
    repeat (refine ord_q (v := ?_) rfl (by rfl) ?_ ?_; rotate_left; (focus (intro w' hS; have s0 := cell_keep hS h0c1; have s1 := cell_keep hS h1c0; have s2 := cell_keep hS h1c1; have s3 := cell_keep hS h1c2; have s4 := cell_keep hS h1c3; have s5 := cell_keep hS h1c4; have s6 := cell_keep hS h1c5; have s7 := cell_keep hS h1c6; have s8 := cell_keep hS h1c7; go_simp; exact rfl)); simp only [Act.put, List.setIfInBounds_toArray, List.set_cons_zero, List.set_cons_succ])
    refine ord_two rfl rfl (by rfl) (by rfl) ?_ ?_
    · intro K hK
      go_simp
      refine (rMod _ _ _).mono ?_
      rintro e wv ⟨rfl, hwv⟩
      rw [hwv]
      refine hK.out _ _ hB ?_
      repeat (refine ord_q (v := ?_) rfl (by rfl) ?_ ?_; rotate_left; (focus (intro w' hS; have s0 := cell_keep hS h0c1; have s1 := cell_keep hS h1c0; have s2 := cell_keep hS h1c1; have s3 := cell_keep hS h1c2; have s4 := cell_keep hS h1c3; have s5 := cell_keep hS h1c4; have s6 := cell_keep hS h1c5; have s7 := cell_keep hS h1c6; have s8 := cell_keep hS h1c7; go_simp; exact rfl)); simp only [Act.put, List.setIfInBounds_toArray, List.set_cons_zero, List.set_cons_succ])
      refine ord_two rfl rfl (by rfl) (by rfl) ?_ ?_
      · intro K hK
        go_simp
        refine (rMod _ _ _).mono ?_
        rintro e wv ⟨rfl, hwv⟩
        rw [hwv]
        refine hK.out _ _ hB ?_
        repeat (refine ord_q (v := ?_) rfl (by rfl) ?_ ?_; rotate_left; (focus (intro w' hS; have s0 := cell_keep hS h0c1; have s1 := cell_keep hS h1c0; have s2 := cell_keep hS h1c1; have s3 := cell_keep hS h1c2; have s4 := cell_keep hS h1c3; have s5 := cell_keep hS h1c4; have s6 := cell_keep hS h1c5; have s7 := cell_keep hS h1c6; have s8 := cell_keep hS h1c7; go_simp; exact rfl)); simp only [Act.put, List.setIfInBounds_toArray, List.set_cons_zero, List.set_cons_succ])
        refine ord_two rfl rfl (by rfl) (by rfl) ?_ ?_
        · intro K hK
          go_simp
          refine (rMod _ _ _).mono ?_
          rintro e wv ⟨rfl, hwv⟩
          rw [hwv]
          refine hK.out _ _ hB ?_
          repeat (refine ord_q (v := ?_) rfl (by rfl) ?_ ?_; rotate_left; (focus (intro w' hS; have s0 := cell_keep hS h0c1; have s1 := cell_keep hS h1c0; have s2 := cell_keep hS h1c1; have s3 := cell_keep hS h1c2; have s4 := cell_keep hS h1c3; have s5 := cell_keep hS h1c4; have s6 := cell_keep hS h1c5; have s7 := cell_keep hS h1c6; have s8 := cell_keep hS h1c7; go_simp; exact rfl)); simp only [Act.put, List.setIfInBounds_toArray, List.set_cons_zero, List.set_cons_succ])
          refine ord_two rfl rfl (by rfl) (by rfl) ?_ ?_
          · intro K hK
            go_simp
            refine (rname _ _ (by first | exact hs1 | exact hs2)).mono ?_
            rintro e wv ⟨rfl, hwv⟩
            have hB := below_of hB hwv
            refine hK.out _ _ hB ?_
            refine ord_two rfl rfl (by rfl) (by rfl) ?_ ?_
            · intro K hK
              go_simp
              refine (rname _ _ (by first | exact hs1 | exact hs2)).mono ?_
              rintro e wv ⟨rfl, hwv⟩
              have hB := below_of hB hwv
              refine hK.out _ _ hB ?_
              refine ord_two rfl rfl (by rfl) (by rfl) ?_ ?_
              · intro K hK
                go_simp
                refine (rMod _ _ _).mono ?_
                rintro e wv ⟨rfl, hwv⟩
                rw [hwv]
                refine hK.out _ _ hB ?_
                repeat (refine ord_q (v := ?_) rfl (by rfl) ?_ ?_; rotate_left; (focus (intro w' hS; have s0 := cell_keep hS h0c1; have s1 := cell_keep hS h1c0; have s2 := cell_keep hS h1c1; have s3 := cell_keep hS h1c2; have s4 := cell_keep hS h1c3; have s5 := cell_keep hS h1c4; have s6 := cell_keep hS h1c5; have s7 := cell_keep hS h1c6; have s8 := cell_keep hS h1c7; go_simp; exact rfl)); simp only [Act.put, List.setIfInBounds_toArray, List.set_cons_zero, List.set_cons_succ])
                refine ord_two rfl rfl (by rfl) (by rfl) ?_ ?_
                · intro K hK
                  go_simp
                  refine (rMod _ _ _).mono ?_
                  rintro e wv ⟨rfl, hwv⟩
                  rw [hwv]
                  refine hK.out _ _ hB ?_
                  repeat (refine ord_q (v := ?_) rfl (by rfl) ?_ ?_; rotate_left; (focus (intro w' hS; have s0 := cell_keep hS h0c1; have s1 := cell_keep hS h1c0; have s2 := cell_keep hS h1c1; have s3 := cell_keep hS h1c2; have s4 := cell_keep hS h1c3; have s5 := cell_keep hS h1c4; have s6 := cell_keep hS h1c5; have s7 := cell_keep hS h1c6; have s8 := cell_keep hS h1c7; go_simp; exact rfl)); simp only [Act.put, List.setIfInBounds_toArray, List.set_cons_zero, List.set_cons_succ])
                  refine ord_g (by rfl) (by rfl) ?_; intro K hK
                  go_simp
                  refine hK.out _ _ (below_alloc hB _) ?_
                  have hbb := hB.size
                  have hbx0 := box_at hB zChg 43
                  (try simp only [drew_heap] at hbx0 hbb)
                  have hB0 := below_alloc hB (.cells zChg.toArray 43)
                  refine ord_letter ?_
                  intro wn hwn
                  have hbx := box_eq hbx0 hwn
                  have hB := below_eq hB0 hwn
                  clear hwn hbx0 hB0
                  refine ord_l (by rfl) rfl (by rfl) ?_; intro K hK
                  have hbxz := hbx.lt; have hbxc0 := hbx.cell 0 _ rfl; have hbxf0 := hbx.frozen 0; have hbxc1 := hbx.cell 1 _ rfl; have hbxf1 := hbx.frozen 1; have hbxc2 := hbx.cell 2 _ rfl; have hbxf2 := hbx.frozen 2; have hbxc3 := hbx.cell 3 _ rfl; have hbxf3 := hbx.frozen 3; have hbxc4 := hbx.cell 4 _ rfl; have hbxf4 := hbx.frozen 4; have hbxc5 := hbx.cell 5 _ rfl; have hbxf5 := hbx.frozen 5; have hbxc6 := hbx.cell 6 _ rfl; have hbxf6 := hbx.frozen 6; have hbxc7 := hbx.cell 7 _ rfl; have hbxf7 := hbx.frozen 7
                  go_simp
                  refine hK.out _ _ ?_
                  refine ord_e ?_
                  go_wp2
                  go_meet
                  case rel => exact chg_rel hn1 hbb hB hbx
                · intro K hK
                  go_simp
                  refine hK.out _ _ (below_alloc hB _) ?_
                  have hbb := hB.size
                  have hbx0 := box_at hB zChg 43
                  (try simp only [drew_heap] at hbx0 hbb)
                  have hB0 := below_alloc hB (.cells zChg.toArray 43)
                  refine ord_letter ?_
                  intro wn hwn
                  have hbx := box_eq hbx0 hwn
                  have hB := below_eq hB0 hwn
                  clear hwn hbx0 hB0
                  refine ord_g (by rfl) (by rfl) ?_; intro K hK
                  go_simp
                  refine (rMod _ _ _).mono ?_
                  rintro e wv ⟨rfl, hwv⟩
                  rw [hwv]
                  refine hK.out _ _ hB ?_
                  repeat (refine ord_q (v := ?_) rfl (by rfl) ?_ ?_; rotate_left; (focus (intro w' hS; have s0 := cell_keep hS h0c1; have s1 := cell_keep hS h1c0; have s2 := cell_keep hS h1c1; have s3 := cell_keep hS h1c2; have s4 := cell_keep hS h1c3; have s5 := cell_keep hS h1c4; have s6 := cell_keep hS h1c5; have s7 := cell_keep hS h1c6; have s8 := cell_keep hS h1c7; go_simp; exact rfl)); simp only [Act.put, List.setIfInBounds_toArray, List.set_cons_zero, List.set_cons_succ])
                  refine ord_l (by rfl) rfl (by rfl) ?_; intro K hK
                  have hbxz := hbx.lt; have hbxc0 := hbx.cell 0 _ rfl; have hbxf0 := hbx.frozen 0; have hbxc1 := hbx.cell 1 _ rfl; have hbxf1 := hbx.frozen 1; have hbxc2 := hbx.cell 2 _ rfl; have hbxf2 := hbx.frozen 2; have hbxc3 := hbx.cell 3 _ rfl; have hbxf3 := hbx.frozen 3; have hbxc4 := hbx.cell 4 _ rfl; have hbxf4 := hbx.frozen 4; have hbxc5 := hbx.cell 5 _ rfl; have hbxf5 := hbx.frozen 5; have hbxc6 := hbx.cell 6 _ rfl; have hbxf6 := hbx.frozen 6; have hbxc7 := hbx.cell 7 _ rfl; have hbxf7 := hbx.frozen 7
                  go_simp
                  refine hK.out _ _ ?_
                  refine ord_e ?_
                  go_wp2
                  go_meet
                  case rel => exact chg_rel hn1 hbb hB hbx
              · intro K hK
                go_simp
                refine hK.out _ _ (below_alloc hB _) ?_
                have hbb := hB.size
                have hbx0 := box_at hB zChg 43
                (try simp only [drew_heap] at hbx0 hbb)
                have hB0 := below_alloc hB (.cells zChg.toArray 43)
                refine ord_letter ?_
                intro wn hwn
                have hbx := box_eq hbx0 hwn
                have hB := below_eq hB0 hwn
                clear hwn hbx0 hB0
                refine ord_g (by rfl) (by rfl) ?_; intro K hK
                go_simp
                refine (rMod _ _ _).mono ?_
                rintro e wv ⟨rfl, hwv⟩
                rw [hwv]
                refine hK.out _ _ hB ?_
                repeat (refine ord_q (v := ?_) rfl (by rfl) ?_ ?_; rotate_left; (focus (intro w' hS; have s0 := cell_keep hS h0c1; have s1 := cell_keep hS h1c0; have s2 := cell_keep hS h1c1; have s3 := cell_keep hS h1c2; have s4 := cell_keep hS h1c3; have s5 := cell_keep hS h1c4; have s6 := cell_keep hS h1c5; have s7 := cell_keep hS h1c6; have s8 := cell_keep hS h1c7; go_simp; exact rfl)); simp only [Act.put, List.setIfInBounds_toArray, List.set_cons_zero, List.set_cons_succ])
                refine ord_g (by rfl) (by rfl) ?_; intro K hK
                go_simp
                refine (rMod _ _ _).mono ?_
                rintro e wv ⟨rfl, hwv⟩
                rw [hwv]
                refine hK.out _ _ hB ?_
                repeat (refine ord_q (v := ?_) rfl (by rfl) ?_ ?_; rotate_left; (focus (intro w' hS; have s0 := cell_keep hS h0c1; have s1 := cell_keep hS h1c0; have s2 := cell_keep hS h1c1; have s3 := cell_keep hS h1c2; have s4 := cell_keep hS h1c3; have s5 := cell_keep hS h1c4; have s6 := cell_keep hS h1c5; have s7 := cell_keep hS h1c6; have s8 := cell_keep hS h1c7; go_simp; exact rfl)); simp only [Act.put, List.setIfInBounds_toArray, List.set_cons_zero, List.set_cons_succ])
                refine ord_l (by rfl) rfl (by rfl) ?_; intro K hK
                have hbxz := hbx.lt; have hbxc0 := hbx.cell 0 _ rfl; have hbxf0 := hbx.frozen 0; have hbxc1 := hbx.cell 1 _ rfl; have hbxf1 := hbx.frozen 1; have hbxc2 := hbx.cell 2 _ rfl; have hbxf2 := hbx.frozen 2; have hbxc3 := hbx.cell 3 _ rfl; have hbxf3 := hbx.frozen 3; have hbxc4 := hbx.cell 4 _ rfl; have hbxf4 := hbx.frozen 4; have hbxc5 := hbx.cell 5 _ rfl; have hbxf5 := hbx.frozen 5; have hbxc6 := hbx.cell 6 _ rfl; have hbxf6 := hbx.frozen 6; have hbxc7 := hbx.cell 7 _ rfl; have hbxf7 := hbx.frozen 7
                go_simp
                refine hK.out _ _ ?_
                refine ord_e ?_
                go_wp2
                go_meet
                case rel => exact chg_rel hn1 hbb hB hbx
            · intro K hK
              go_simp
              refine hK.out _ _ (below_alloc hB _) ?_
              have hbb := hB.size
              have hbx0 := box_at hB zChg 43
              (try simp only [drew_heap] at hbx0 hbb)
              have hB0 := below_alloc hB (.cells zChg.toArray 43)
              refine ord_letter ?_
              intro wn hwn
              have hbx := box_eq hbx0 hwn
              have hB := below_eq hB0 hwn
              clear hwn hbx0 hB0
              refine ord_g (by rfl) (by rfl) ?_; intro K hK
              go_simp
              refine (rname _ _ (by first | exact hs1 | exact hs2)).mono ?_
              rintro e wv ⟨rfl, hwv⟩
              have hbx := hbx.keep hwv
              have hB := below_of hB hwv
              refine hK.out _ _ hB ?_
              refine ord_g (by rfl) (by rfl) ?_; intro K hK
              go_simp
              refine (rMod _ _ _).mono ?_
              rintro e wv ⟨rfl, hwv⟩
              rw [hwv]
              refine hK.out _ _ hB ?_
              repeat (refine ord_q (v := ?_) rfl (by rfl) ?_ ?_; rotate_left; (focus (intro w' hS; have s0 := cell_keep hS h0c1; have s1 := cell_keep hS h1c0; have s2 := cell_keep hS h1c1; have s3 := cell_keep hS h1c2; have s4 := cell_keep hS h1c3; have s5 := cell_keep hS h1c4; have s6 := cell_keep hS h1c5; have s7 := cell_keep hS h1c6; have s8 := cell_keep hS h1c7; go_simp; exact rfl)); simp only [Act.put, List.setIfInBounds_toArray, List.set_cons_zero, List.set_cons_succ])
              refine ord_g (by rfl) (by rfl) ?_; intro K hK
              go_simp
              refine (rMod _ _ _).mono ?_
              rintro e wv ⟨rfl, hwv⟩
              rw [hwv]
              refine hK.out _ _ hB ?_
              repeat (refine ord_q (v := ?_) rfl (by rfl) ?_ ?_; rotate_left; (focus (intro w' hS; have s0 := cell_keep hS h0c1; have s1 := cell_keep hS h1c0; have s2 := cell_keep hS h1c1; have s3 := cell_keep hS h1c2; have s4 := cell_keep hS h1c3; have s5 := cell_keep hS h1c4; have s6 := cell_keep hS h1c5; have s7 := cell_keep hS h1c6; have s8 := cell_keep hS h1c7; go_simp; exact rfl)); simp only [Act.put, List.setIfInBounds_toArray, List.set_cons_zero, List.set_cons_succ])
              refine ord_l (by rfl) rfl (by rfl) ?_; intro K hK
              have hbxz := hbx.lt; have hbxc0 := hbx.cell 0 _ rfl; have hbxf0 := hbx.frozen 0; have hbxc1 := hbx.cell 1 _ rfl; have hbxf1 := hbx.frozen 1; have hbxc2 := hbx.cell 2 _ rfl; have hbxf2 := hbx.frozen 2; have hbxc3 := hbx.cell 3 _ rfl; have hbxf3 := hbx.frozen 3; have hbxc4 := hbx.cell 4 _ rfl; have hbxf4 := hbx.frozen 4; have hbxc5 := hbx.cell 5 _ rfl; have hbxf5 := hbx.frozen 5; have hbxc6 := hbx.cell 6 _ rfl; have hbxf6 := hbx.frozen 6; have hbxc7 := hbx.cell 7 _ rfl; have hbxf7 := hbx.frozen 7
              go_simp
              refine hK.out _ _ ?_
              refine ord_e ?_
              go_wp2
              go_meet
              case rel => exact chg_rel hn1 hbb hB hbx
          · intro K hK
            go_simp
            refine hK.out _ _ (below_alloc hB _) ?_
            have hbb := hB.size
            have hbx0 := box_at hB zChg 43
            (try simp only [drew_heap] at hbx0 hbb)
            have hB0 := below_alloc hB (.cells zChg.toArray 43)
            refine ord_letter ?_
            intro wn hwn
            have hbx := box_eq hbx0 hwn
            have hB := below_eq hB0 hwn
            clear hwn hbx0 hB0
            refine ord_g (by rfl) (by rfl) ?_; intro K hK
            go_simp
            refine (rname _ _ (by first | exact hs1 | exact hs2)).mono ?_
            rintro e wv ⟨rfl, hwv⟩
            have hbx := hbx.keep hwv
            have hB := below_of hB hwv
            refine hK.out _ _ hB ?_
            refine ord_g (by rfl) (by rfl) ?_; intro K hK
            go_simp
            refine (rname _ _ (by first | exact hs1 | exact hs2)).mono ?_
            rintro e wv ⟨rfl, hwv⟩
            have hbx := hbx.keep hwv
            have hB := below_of hB hwv
            refine hK.out _ _ hB ?_
            refine ord_g (by rfl) (by rfl) ?_; intro K hK
            go_simp
            refine (rMod _ _ _).mono ?_
            rintro e wv ⟨rfl, hwv⟩
            rw [hwv]
            refine hK.out _ _ hB ?_
            repeat (refine ord_q (v := ?_) rfl (by rfl) ?_ ?_; rotate_left; (focus (intro w' hS; have s0 := cell_keep hS h0c1; have s1 := cell_keep hS h1c0; have s2 := cell_keep hS h1c1; have s3 := cell_keep hS h1c2; have s4 := cell_keep hS h1c3; have s5 := cell_keep hS h1c4; have s6 := cell_keep hS h1c5; have s7 := cell_keep hS h1c6; have s8 := cell_keep hS h1c7; go_simp; exact rfl)); simp only [Act.put, List.setIfInBounds_toArray, List.set_cons_zero, List.set_cons_succ])
            refine ord_g (by rfl) (by rfl) ?_; intro K hK
            go_simp
            refine (rMod _ _ _).mono ?_
            rintro e wv ⟨rfl, hwv⟩
            rw [hwv]
            refine hK.out _ _ hB ?_
            repeat (refine ord_q (v := ?_) rfl (by rfl) ?_ ?_; rotate_left; (focus (intro w' hS; have s0 := cell_keep hS h0c1; have s1 := cell_keep hS h1c0; have s2 := cell_keep hS h1c1; have s3 := cell_keep hS h1c2; have s4 := cell_keep hS h1c3; have s5 := cell_keep hS h1c4; have s6 := cell_keep hS h1c5; have s7 := cell_keep hS h1c6; have s8 := cell_keep hS h1c7; go_simp; exact rfl)); simp only [Act.put, List.setIfInBounds_toArray, List.set_cons_zero, List.set_cons_succ])
            refine ord_l (by rfl) rfl (by rfl) ?_; intro K hK
            have hbxz := hbx.lt; have hbxc0 := hbx.cell 0 _ rfl; have hbxf0 := hbx.frozen 0; have hbxc1 := hbx.cell 1 _ rfl; have hbxf1 := hbx.frozen 1; have hbxc2 := hbx.cell 2 _ rfl; have hbxf2 := hbx.frozen 2; have hbxc3 := hbx.cell 3 _ rfl; have hbxf3 := hbx.frozen 3; have hbxc4 := hbx.cell 4 _ rfl; have hbxf4 := hbx.frozen 4; have hbxc5 := hbx.cell 5 _ rfl; have hbxf5 := hbx.frozen 5; have hbxc6 := hbx.cell 6 _ rfl; have hbxf6 := hbx.frozen 6; have hbxc7 := hbx.cell 7 _ rfl; have hbxf7 := hbx.frozen 7
            go_simp
            refine hK.out _ _ ?_
            refine ord_e ?_
            go_wp2
            go_meet
            case rel => exact chg_rel hn1 hbb hB hbx
        · intro K hK
          go_simp
          refine hK.out _ _ (below_alloc hB _) ?_
          have hbb := hB.size
          have hbx0 := box_at hB zChg 43
          (try simp only [drew_heap] at hbx0 hbb)
          have hB0 := below_alloc hB (.cells zChg.toArray 43)
          refine ord_letter ?_
          intro wn hwn
          have hbx := box_eq hbx0 hwn
          have hB := below_eq hB0 hwn
          clear hwn hbx0 hB0
          refine ord_g (by rfl) (by rfl) ?_; intro K hK
          go_simp
          refine (rMod _ _ _).mono ?_
          rintro e wv ⟨rfl, hwv⟩
          rw [hwv]
          refine hK.out _ _ hB ?_
          repeat (refine ord_q (v := ?_) rfl (by rfl) ?_ ?_; rotate_left; (focus (intro w' hS; have s0 := cell_keep hS h0c1; have s1 := cell_keep hS h1c0; have s2 := cell_keep hS h1c1; have s3 := cell_keep hS h1c2; have s4 := cell_keep hS h1c3; have s5 := cell_keep hS h1c4; have s6 := cell_keep hS h1c5; have s7 := cell_keep hS h1c6; have s8 := cell_keep hS h1c7; go_simp; exact rfl)); simp only [Act.put, List.setIfInBounds_toArray, List.set_cons_zero, List.set_cons_succ])
          refine ord_g (by rfl) (by rfl) ?_; intro K hK
          go_simp
          refine (rname _ _ (by first | exact hs1 | exact hs2)).mono ?_
          rintro e wv ⟨rfl, hwv⟩
          have hbx := hbx.keep hwv
          have hB := below_of hB hwv
          refine hK.out _ _ hB ?_
          refine ord_g (by rfl) (by rfl) ?_; intro K hK
          go_simp
          refine (rname _ _ (by first | exact hs1 | exact hs2)).mono ?_
          rintro e wv ⟨rfl, hwv⟩
          have hbx := hbx.keep hwv
          have hB := below_of hB hwv
          refine hK.out _ _ hB ?_
          refine ord_g (by rfl) (by rfl) ?_; intro K hK
          go_simp
          refine (rMod _ _ _).mono ?_
          rintro e wv ⟨rfl, hwv⟩
          rw [hwv]
          refine hK.out _ _ hB ?_
          repeat (refine ord_q (v := ?_) rfl (by rfl) ?_ ?_; rotate_left; (focus (intro w' hS; have s0 := cell_keep hS h0c1; have s1 := cell_keep hS h1c0; have s2 := cell_keep hS h1c1; have s3 := cell_keep hS h1c2; have s4 := cell_keep hS h1c3; have s5 := cell_keep hS h1c4; have s6 := cell_keep hS h1c5; have s7 := cell_keep hS h1c6; have s8 := cell_keep hS h1c7; go_simp; exact rfl)); simp only [Act.put, List.setIfInBounds_toArray, List.set_cons_zero, List.set_cons_succ])
          refine ord_g (by rfl) (by rfl) ?_; intro K hK
          go_simp
          refine (rMod _ _ _).mono ?_
          rintro e wv ⟨rfl, hwv⟩
          rw [hwv]
          refine hK.out _ _ hB ?_
          repeat (refine ord_q (v := ?_) rfl (by rfl) ?_ ?_; rotate_left; (focus (intro w' hS; have s0 := cell_keep hS h0c1; have s1 := cell_keep hS h1c0; have s2 := cell_keep hS h1c1; have s3 := cell_keep hS h1c2; have s4 := cell_keep hS h1c3; have s5 := cell_keep hS h1c4; have s6 := cell_keep hS h1c5; have s7 := cell_keep hS h1c6; have s8 := cell_keep hS h1c7; go_simp; exact rfl)); simp only [Act.put, List.setIfInBounds_toArray, List.set_cons_zero, List.set_cons_succ])
          refine ord_l (by rfl) rfl (by rfl) ?_; intro K hK
          have hbxz := hbx.lt; have hbxc0 := hbx.cell 0 _ rfl; have hbxf0 := hbx.frozen 0; have hbxc1 := hbx.cell 1 _ rfl; have hbxf1 := hbx.frozen 1; have hbxc2 := hbx.cell 2 _ rfl; have hbxf2 := hbx.frozen 2; have hbxc3 := hbx.cell 3 _ rfl; have hbxf3 := hbx.frozen 3; have hbxc4 := hbx.cell 4 _ rfl; have hbxf4 := hbx.frozen 4; have hbxc5 := hbx.cell 5 _ rfl; have hbxf5 := hbx.frozen 5; have hbxc6 := hbx.cell 6 _ rfl; have hbxf6 := hbx.frozen 6; have hbxc7 := hbx.cell 7 _ rfl; have hbxf7 := hbx.frozen 7
          go_simp
          refine hK.out _ _ ?_
          refine ord_e ?_
          go_wp2
          go_meet
          case rel => exact chg_rel hn1 hbb hB hbx
      · intro K hK
        go_simp
        refine hK.out _ _ (below_alloc hB _) ?_
        have hbb := hB.size
        have hbx0 := box_at hB zChg 43
        (try simp only [drew_heap] at hbx0 hbb)
        have hB0 := below_alloc hB (.cells zChg.toArray 43)
        refine ord_letter ?_
        intro wn hwn
        have hbx := box_eq hbx0 hwn
        have hB := below_eq hB0 hwn
        clear hwn hbx0 hB0
        refine ord_g (by rfl) (by rfl) ?_; intro K hK
        go_simp
        refine (rMod _ _ _).mono ?_
        rintro e wv ⟨rfl, hwv⟩
        rw [hwv]
        refine hK.out _ _ hB ?_
        repeat (refine ord_q (v := ?_) rfl (by rfl) ?_ ?_; rotate_left; (focus (intro w' hS; have s0 := cell_keep hS h0c1; have s1 := cell_keep hS h1c0; have s2 := cell_keep hS h1c1; have s3 := cell_keep hS h1c2; have s4 := cell_keep hS h1c3; have s5 := cell_keep hS h1c4; have s6 := cell_keep hS h1c5; have s7 := cell_keep hS h1c6; have s8 := cell_keep hS h1c7; go_simp; exact rfl)); simp only [Act.put, List.setIfInBounds_toArray, List.set_cons_zero, List.set_cons_succ])
        refine ord_g (by rfl) (by rfl) ?_; intro K hK
        go_simp
        refine (rMod _ _ _).mono ?_
        rintro e wv ⟨rfl, hwv⟩
        rw [hwv]
        refine hK.out _ _ hB ?_
        repeat (refine ord_q (v := ?_) rfl (by rfl) ?_ ?_; rotate_left; (focus (intro w' hS; have s0 := cell_keep hS h0c1; have s1 := cell_keep hS h1c0; have s2 := cell_keep hS h1c1; have s3 := cell_keep hS h1c2; have s4 := cell_keep hS h1c3; have s5 := cell_keep hS h1c4; have s6 := cell_keep hS h1c5; have s7 := cell_keep hS h1c6; have s8 := cell_keep hS h1c7; go_simp; exact rfl)); simp only [Act.put, List.setIfInBounds_toArray, List.set_cons_zero, List.set_cons_succ])
        refine ord_g (by rfl) (by rfl) ?_; intro K hK
        go_simp
        refine (rname _ _ (by first | exact hs1 | exact hs2)).mono ?_
        rintro e wv ⟨rfl, hwv⟩
        have hbx := hbx.keep hwv
        have hB := below_of hB hwv
        refine hK.out _ _ hB ?_
        refine ord_g (by rfl) (by rfl) ?_; intro K hK
        go_simp
        refine (rname _ _ (by first | exact hs1 | exact hs2)).mono ?_
        rintro e wv ⟨rfl, hwv⟩
        have hbx := hbx.keep hwv
        have hB := below_of hB hwv
        refine hK.out _ _ hB ?_
        refine ord_g (by rfl) (by rfl) ?_; intro K hK
        go_simp
        refine (rMod _ _ _).mono ?_
        rintro e wv ⟨rfl, hwv⟩
        rw [hwv]
        refine hK.out _ _ hB ?_
        repeat (refine ord_q (v := ?_) rfl (by rfl) ?_ ?_; rotate_left; (focus (intro w' hS; have s0 := cell_keep hS h0c1; have s1 := cell_keep hS h1c0; have s2 := cell_keep hS h1c1; have s3 := cell_keep hS h1c2; have s4 := cell_keep hS h1c3; have s5 := cell_keep hS h1c4; have s6 := cell_keep hS h1c5; have s7 := cell_keep hS h1c6; have s8 := cell_keep hS h1c7; go_simp; exact rfl)); simp only [Act.put, List.setIfInBounds_toArray, List.set_cons_zero, List.set_cons_succ])
        refine ord_g (by rfl) (by rfl) ?_; intro K hK
        go_simp
        refine (rMod _ _ _).mono ?_
        rintro e wv ⟨rfl, hwv⟩
        rw [hwv]
        refine hK.out _ _ hB ?_
        repeat (refine ord_q (v := ?_) rfl (by rfl) ?_ ?_; rotate_left; (focus (intro w' hS; have s0 := cell_keep hS h0c1; have s1 := cell_keep hS h1c0; have s2 := cell_keep hS h1c1; have s3 := cell_keep hS h1c2; have s4 := cell_keep hS h1c3; have s5 := cell_keep hS h1c4; have s6 := cell_keep hS h1c5; have s7 := cell_keep hS h1c6; have s8 := cell_keep hS h1c7; go_simp; exact rfl)); simp only [Act.put, List.setIfInBounds_toArray, List.set_cons_zero, List.set_cons_succ])
        refine ord_l (by rfl) rfl (by rfl) ?_; intro K hK
        have hbxz := hbx.lt; have hbxc0 := hbx.cell 0 _ rfl; have hbxf0 := hbx.frozen 0; have hbxc1 := hbx.cell 1 _ rfl; have hbxf1 := hbx.frozen 1; have hbxc2 := hbx.cell 2 _ rfl; have hbxf2 := hbx.frozen 2; have hbxc3 := hbx.cell 3 _ rfl; have hbxf3 := hbx.frozen 3; have hbxc4 := hbx.cell 4 _ rfl; have hbxf4 := hbx.frozen 4; have hbxc5 := hbx.cell 5 _ rfl; have hbxf5 := hbx.frozen 5; have hbxc6 := hbx.cell 6 _ rfl; have hbxf6 := hbx.frozen 6; have hbxc7 := hbx.cell 7 _ rfl; have hbxf7 := hbx.frozen 7
        go_simp
        refine hK.out _ _ ?_
        refine ord_e ?_
        go_wp2
        go_meet
        case rel => exact chg_rel hn1 hbb hB hbx
    · intro K hK
      go_simp
      refine hK.out _ _ (below_alloc hB _) ?_
      have hbb := hB.size
      have hbx0 := box_at hB zChg 43
      (try simp only [drew_heap] at hbx0 hbb)
      have hB0 := below_alloc hB (.cells zChg.toArray 43)
      refine ord_letter ?_
      intro wn hwn
      have hbx := box_eq hbx0 hwn
      have hB := below_eq hB0 hwn
      clear hwn hbx0 hB0
      refine ord_g (by rfl) (by rfl) ?_; intro K hK
      go_simp
      refine (rMod _ _ _).mono ?_
      rintro e wv ⟨rfl, hwv⟩
      rw [hwv]
      refine hK.out _ _ hB ?_
      repeat (refine ord_q (v := ?_) rfl (by rfl) ?_ ?_; rotate_left; (focus (intro w' hS; have s0 := cell_keep hS h0c1; have s1 := cell_keep hS h1c0; have s2 := cell_keep hS h1c1; have s3 := cell_keep hS h1c2; have s4 := cell_keep hS h1c3; have s5 := cell_keep hS h1c4; have s6 := cell_keep hS h1c5; have s7 := cell_keep hS h1c6; have s8 := cell_keep hS h1c7; go_simp; exact rfl)); simp only [Act.put, List.setIfInBounds_toArray, List.set_cons_zero, List.set_cons_succ])
      refine ord_g (by rfl) (by rfl) ?_; intro K hK
      go_simp
      refine (rMod _ _ _).mono ?_
      rintro e wv ⟨rfl, hwv⟩
      rw [hwv]
      refine hK.out _ _ hB ?_
      repeat (refine ord_q (v := ?_) rfl (by rfl) ?_ ?_; rotate_left; (focus (intro w' hS; have s0 := cell_keep hS h0c1; have s1 := cell_keep hS h1c0; have s2 := cell_keep hS h1c1; have s3 := cell_keep hS h1c2; have s4 := cell_keep hS h1c3; have s5 := cell_keep hS h1c4; have s6 := cell_keep hS h1c5; have s7 := cell_keep hS h1c6; have s8 := cell_keep hS h1c7; go_simp; exact rfl)); simp only [Act.put, List.setIfInBounds_toArray, List.set_cons_zero, List.set_cons_succ])
      refine ord_g (by rfl) (by rfl) ?_; intro K hK
      go_simp
      refine (rMod _ _ _).mono ?_
      rintro e wv ⟨rfl, hwv⟩
      rw [hwv]
      refine hK.out _ _ hB ?_
      repeat (refine ord_q (v := ?_) rfl (by rfl) ?_ ?_; rotate_left; (focus (intro w' hS; have s0 := cell_keep hS h0c1; have s1 := cell_keep hS h1c0; have s2 := cell_keep hS h1c1; have s3 := cell_keep hS h1c2; have s4 := cell_keep hS h1c3; have s5 := cell_keep hS h1c4; have s6 := cell_keep hS h1c5; have s7 := cell_keep hS h1c6; have s8 := cell_keep hS h1c7; go_simp; exact rfl)); simp only [Act.put, List.setIfInBounds_toArray, List.set_cons_zero, List.set_cons_succ])
      refine ord_g (by rfl) (by rfl) ?_; intro K hK
      go_simp
      refine (rname _ _ (by first | exact hs1 | exact hs2)).mono ?_
      rintro e wv ⟨rfl, hwv⟩
      have hbx := hbx.keep hwv
      have hB := below_of hB hwv
      refine hK.out _ _ hB ?_
      refine ord_g (by rfl) (by rfl) ?_; intro K hK
      go_simp
      refine (rname _ _ (by first | exact hs1 | exact hs2)).mono ?_
      rintro e wv ⟨rfl, hwv⟩
      have hbx := hbx.keep hwv
      have hB := below_of hB hwv
      refine hK.out _ _ hB ?_
      refine ord_g (by rfl) (by rfl) ?_; intro K hK
      go_simp
      refine (rMod _ _ _).mono ?_
      rintro e wv ⟨rfl, hwv⟩
      rw [hwv]
      refine hK.out _ _ hB ?_
      repeat (refine ord_q (v := ?_) rfl (by rfl) ?_ ?_; rotate_left; (focus (intro w' hS; have s0 := cell_keep hS h0c1; have s1 := cell_keep hS h1c0; have s2 := cell_keep hS h1c1; have s3 := cell_keep hS h1c2; have s4 := cell_keep hS h1c3; have s5 := cell_keep hS h1c4; have s6 := cell_keep hS h1c5; have s7 := cell_keep hS h1c6; have s8 := cell_keep hS h1c7; go_simp; exact rfl)); simp only [Act.put, List.setIfInBounds_toArray, List.set_cons_zero, List.set_cons_succ])
      refine ord_g (by rfl) (by rfl) ?_; intro K hK
      go_simp
      refine (rMod _ _ _).mono ?_
      rintro e wv ⟨rfl, hwv⟩
      rw [hwv]
      refine hK.out _ _ hB ?_
      repeat (refine ord_q (v := ?_) rfl (by rfl) ?_ ?_; rotate_left; (focus (intro w' hS; have s0 := cell_keep hS h0c1; have s1 := cell_keep hS h1c0; have s2 := cell_keep hS h1c1; have s3 := cell_keep hS h1c2; have s4 := cell_keep hS h1c3; have s5 := cell_keep hS h1c4; have s6 := cell_keep hS h1c5; have s7 := cell_keep hS h1c6; have s8 := cell_keep hS h1c7; go_simp; exact rfl)); simp only [Act.put, List.setIfInBounds_toArray, List.set_cons_zero, List.set_cons_succ])
      refine ord_l (by rfl) rfl (by rfl) ?_; intro K hK
      have hbxz := hbx.lt; have hbxc0 := hbx.cell 0 _ rfl; have hbxf0 := hbx.frozen 0; have hbxc1 := hbx.cell 1 _ rfl; have hbxf1 := hbx.frozen 1; have hbxc2 := hbx.cell 2 _ rfl; have hbxf2 := hbx.frozen 2; have hbxc3 := hbx.cell 3 _ rfl; have hbxf3 := hbx.frozen 3; have hbxc4 := hbx.cell 4 _ rfl; have hbxf4 := hbx.frozen 4; have hbxc5 := hbx.cell 5 _ rfl; have hbxf5 := hbx.frozen 5; have hbxc6 := hbx.cell 6 _ rfl; have hbxf6 := hbx.frozen 6; have hbxc7 := hbx.cell 7 _ rfl; have hbxf7 := hbx.frozen 7
      go_simp
      refine hK.out _ _ ?_
      refine ord_e ?_
      go_wp2
      go_meet
      case rel => exact chg_rel hn1 hbb hB hbx
  case rest =>
    obtain ⟨b5, rfl, hb5, HBc, m5⟩ := hcut
    have m0 := h0.keep HBc
    have m1 := h1.keep HBc
    have m2 := h2.keep HBc
    have m0z := m0.lt; have m0c0 := m0.cell 0 _ rfl; have m0c1 := m0.cell 1 _ rfl; have m1z := m1.lt; have m1c0 := m1.cell 0 _ rfl; have m1c1 := m1.cell 1 _ rfl; have m1c2 := m1.cell 2 _ rfl; have m1c3 := m1.cell 3 _ rfl; have m1c4 := m1.cell 4 _ rfl; have m1c5 := m1.cell 5 _ rfl; have m1c6 := m1.cell 6 _ rfl; have m1c7 := m1.cell 7 _ rfl; have m2z := m2.lt; have m2c0 := m2.cell 0 _ rfl; have m2f0 := m2.frozen 0; have m2c1 := m2.cell 1 _ rfl; have m2f1 := m2.frozen 1; have m2c2 := m2.cell 2 _ rfl; have m2f2 := m2.frozen 2; have m2c3 := m2.cell 3 _ rfl; have m2f3 := m2.frozen 3; have m2c4 := m2.cell 4 _ rfl; have m2f4 := m2.frozen 4; have m2c5 := m2.cell 5 _ rfl; have m2f5 := m2.frozen 5; have m2c6 := m2.cell 6 _ rfl; have m2f6 := m2.frozen 6; have m2c7 := m2.cell 7 _ rfl; have m2f7 := m2.frozen 7; have m5z := m5.lt; have m5c0 := m5.cell 0 _ rfl; have m5f0 := m5.frozen 0; have m5c1 := m5.cell 1 _ rfl; have m5f1 := m5.frozen 1; have m5c2 := m5.cell 2 _ rfl; have m5f2 := m5.frozen 2; have m5c3 := m5.cell 3 _ rfl; have m5f3 := m5.frozen 3; have m5c4 := m5.cell 4 _ rfl; have m5f4 := m5.frozen 4; have m5c5 := m5.cell 5 _ rfl; have m5f5 := m5.frozen 5; have m5c6 := m5.cell 6 _ rfl; have m5f6 := m5.frozen 6; have m5c7 := m5.cell 7 _ rfl; have m5f7 := m5.frozen 7
    have hB := below_of hBW HBc
    have hb5w : w.heap.size + 1 + 1 < b5 := by omega
    have hpn := (modR_in (x := c.par) hn1).1
    go_upto_region 4 with (go_at_call 33; refine (rSep _ _ hs3).mono ?_; rintro e w3 ⟨rfl, hww⟩; rw [hww])
    all_goals
      refine wp_letter ?_
      intro W4 hW
      have k0 : Box W4 w.heap.size [.slice A l.length cp, .int .i64 nx] 31 := by rw [hW]; first | exact m0 | exact m0.far (by simp; omega) _
      have k2 : Box W4 (w.heap.size + 1 + 1) zChg 43 := by rw [hW]; first | exact m2 | exact m2.far (by simp; omega) _
      have k5 : Box W4 b5 [.int .i64 (1 + modR c.kind 7), .int .i64 (1 + modR c.id nx), .int .i64 (1 + modR c.wit nx), .string (nameR c.name), .string (nameR c.other), .int .i64 (1 + modR c.ty 6), .int .i64 (modR c.par nx), .string (sepR c.sep)] 43 := by
        rw [hW]; unfold sepR
        first
          | (rw [if_pos (by simpa using ‹(!sepOk c.sep) = false›)]; exact m5)
          | (rw [if_neg (by simpa using ‹(!sepOk c.sep) = true›)]; exact m5.set 7 _)
      have hB4 : Below w.heap.size w W4 := by rw [hW]; first | exact hB | exact below_set hB (by simp; omega) _
      clear hW
      have k0z := k0.lt; have k0c0 := k0.cell 0 _ rfl; have k0c1 := k0.cell 1 _ rfl; have k2z := k2.lt; have k2c0 := k2.cell 0 _ rfl; have k2f0 := k2.frozen 0; have k2c1 := k2.cell 1 _ rfl; have k2f1 := k2.frozen 1; have k2c2 := k2.cell 2 _ rfl; have k2f2 := k2.frozen 2; have k2c3 := k2.cell 3 _ rfl; have k2f3 := k2.frozen 3; have k2c4 := k2.cell 4 _ rfl; have k2f4 := k2.frozen 4; have k2c5 := k2.cell 5 _ rfl; have k2f5 := k2.frozen 5; have k2c6 := k2.cell 6 _ rfl; have k2f6 := k2.frozen 6; have k2c7 := k2.cell 7 _ rfl; have k2f7 := k2.frozen 7; have k5z := k5.lt; have k5c0 := k5.cell 0 _ rfl; have k5f0 := k5.frozen 0; have k5c1 := k5.cell 1 _ rfl; have k5f1 := k5.frozen 1; have k5c2 := k5.cell 2 _ rfl; have k5f2 := k5.frozen 2; have k5c3 := k5.cell 3 _ rfl; have k5f3 := k5.frozen 3; have k5c4 := k5.cell 4 _ rfl; have k5f4 := k5.frozen 4; have k5c5 := k5.cell 5 _ rfl; have k5f5 := k5.frozen 5; have k5c6 := k5.cell 6 _ rfl; have k5f6 := k5.frozen 6; have k5c7 := k5.cell 7 _ rfl; have k5f7 := k5.frozen 7
      cases hg : grp l (modR c.par nx)
      · have hv : Hid (chgV (changeR l nx c) = .agg [Value.int .i64 (1 + modR c.kind 7), .int .i64 (1 + modR c.id nx), .int .i64 (1 + modR c.wit nx), .string (nameR c.name), .string (nameR c.other), .int .i64 (1 + modR c.ty 6), .int .i64 0, .string (sepR c.sep)].toArray) := Lib.hid (by simp [changeR, rawC, hg])
        go_wp2_with (go_at_call 34; refine (rGroup _ _ _ _ _ _ (hr.keep (below_of hB4 (by repeat (first | exact below_refl _ | apply below_alloc | apply below_drew | apply below_drewN))))).mono ?_; rintro e w1 ⟨rfl, hb⟩; rw [hg]; have q2 := k2.keep hb; have q5 := k5.keep hb; have hB5 := below_of hB4 hb; have q2z := q2.lt; have q2c0 := q2.cell 0 _ rfl; have q2f0 := q2.frozen 0; have q2c1 := q2.cell 1 _ rfl; have q2f1 := q2.frozen 1; have q2c2 := q2.cell 2 _ rfl; have q2f2 := q2.frozen 2; have q2c3 := q2.cell 3 _ rfl; have q2f3 := q2.frozen 3; have q2c4 := q2.cell 4 _ rfl; have q2f4 := q2.frozen 4; have q2c5 := q2.cell 5 _ rfl; have q2f5 := q2.frozen 5; have q2c6 := q2.cell 6 _ rfl; have q2f6 := q2.frozen 6; have q2c7 := q2.cell 7 _ rfl; have q2f7 := q2.frozen 7; have q5z := q5.lt; have q5c0 := q5.cell 0 _ rfl; have q5f0 := q5.frozen 0; have q5c1 := q5.cell 1 _ rfl; have q5f1 := q5.frozen 1; have q5c2 := q5.cell 2 _ rfl; have q5f2 := q5.frozen 2; have q5c3 := q5.cell 3 _ rfl; have q5f3 := q5.frozen 3; have q5c4 := q5.cell 4 _ rfl; have q5f4 := q5.frozen 4; have q5c5 := q5.cell 5 _ rfl; have q5f5 := q5.frozen 5; have q5c6 := q5.cell 6 _ rfl; have q5f6 := q5.frozen 6; have q5c7 := q5.cell 7 _ rfl; have q5f7 := q5.frozen 7)
        exact end_cell (t := 43) rfl rfl ((q2.far (a := ⟨b5, 6, none⟩) (by simp; omega) _).set8 _ _ _ _ _ _ _ _) Try.underlying43 rfl rfl rfl ⟨by rw [hv.out], below_set8 (below_set hB5 (by simp; omega) _) (by omega) _ _ _ _ _ _ _ _⟩
      · have hv : Hid (chgV (changeR l nx c) = .agg [Value.int .i64 (1 + modR c.kind 7), .int .i64 (1 + modR c.id nx), .int .i64 (1 + modR c.wit nx), .string (nameR c.name), .string (nameR c.other), .int .i64 (1 + modR c.ty 6), .int .i64 (modR c.par nx), .string (sepR c.sep)].toArray) := Lib.hid (by simp [changeR, rawC, hg])
        go_wp2_with (go_at_call 34; refine (rGroup _ _ _ _ _ _ (hr.keep (below_of hB4 (by repeat (first | exact below_refl _ | apply below_alloc | apply below_drew | apply below_drewN))))).mono ?_; rintro e w1 ⟨rfl, hb⟩; rw [hg]; have q2 := k2.keep hb; have q5 := k5.keep hb; have hB5 := below_of hB4 hb; have q2z := q2.lt; have q2c0 := q2.cell 0 _ rfl; have q2f0 := q2.frozen 0; have q2c1 := q2.cell 1 _ rfl; have q2f1 := q2.frozen 1; have q2c2 := q2.cell 2 _ rfl; have q2f2 := q2.frozen 2; have q2c3 := q2.cell 3 _ rfl; have q2f3 := q2.frozen 3; have q2c4 := q2.cell 4 _ rfl; have q2f4 := q2.frozen 4; have q2c5 := q2.cell 5 _ rfl; have q2f5 := q2.frozen 5; have q2c6 := q2.cell 6 _ rfl; have q2f6 := q2.frozen 6; have q2c7 := q2.cell 7 _ rfl; have q2f7 := q2.frozen 7; have q5z := q5.lt; have q5c0 := q5.cell 0 _ rfl; have q5f0 := q5.frozen 0; have q5c1 := q5.cell 1 _ rfl; have q5f1 := q5.frozen 1; have q5c2 := q5.cell 2 _ rfl; have q5f2 := q5.frozen 2; have q5c3 := q5.cell 3 _ rfl; have q5f3 := q5.frozen 3; have q5c4 := q5.cell 4 _ rfl; have q5f4 := q5.frozen 4; have q5c5 := q5.cell 5 _ rfl; have q5f5 := q5.frozen 5; have q5c6 := q5.cell 6 _ rfl; have q5f6 := q5.frozen 6; have q5c7 := q5.cell 7 _ rfl; have q5f7 := q5.frozen 7)
        exact end_cell (t := 43) rfl rfl (q2.set8 _ _ _ _ _ _ _ _) Try.underlying43 rfl rfl rfl ⟨by rw [hv.out], below_set8 hB5 (by omega) _ _ _ _ _ _ _ _⟩
end Go.Proofs.Ythcphdgfdkgimaa

