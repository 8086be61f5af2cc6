/- The references of fenlandref06, part O: Made. -/
import Derived.Test.YthcphdgfdkgimaaRefN
set_option linter.unusedSimpArgs false
set_option linter.unusedVariables false
namespace Go.Proofs.Ythcphdgfdkgimaa
open Go.RowKit
theorem infoG : (Try.prog.info? 43).map (fun i => (i.zero, i.size, i.bytes)) = some (some (.agg #[.int .i64 0, .int .i64 0, .int .i64 0, .string ⟨#[]⟩, .string ⟨#[]⟩, .int .i64 0, .int .i64 0, .string ⟨#[]⟩]), 8, 88) := by kernel_rfl
def RetG (w0 : World) (l : List Chg) (e : Ending) (w' : World) : Prop := ∃ A c, e = .returned (.slice A l.length c) ∧ l.length ≤ c ∧ RdG w' A l ∧ Frm w0.heap.size A ∧ Below w0.heap.size w0 w'
def madeGo : List Chg → List Fld × Int → List Chg → List Chg
  | [], _, acc => acc
  | c :: r, s, acc => if ((applyR s.1 s.2 (changeR s.1 s.2 c)).1 == 0) = true then madeGo r (applyR s.1 s.2 (changeR s.1 s.2 c)).2 (acc ++ [changeR s.1 s.2 c]) else madeGo r s acc
def madeR (cs : List Chg) (n : Nat) : List Chg := madeGo (cs.take n) ([], 1) []
theorem madeGo_step {cs : List Chg} {k : Nat} (hk : k < cs.length) (s : List Fld × Int) (acc : List Chg) : madeGo (cs.drop k) s acc = if ((applyR s.1 s.2 (changeR s.1 s.2 cs[k])).1 == 0) = true then madeGo (cs.drop (k + 1)) (applyR s.1 s.2 (changeR s.1 s.2 cs[k])).2 (acc ++ [changeR s.1 s.2 cs[k]]) else madeGo (cs.drop (k + 1)) s acc := by
  rw [List.drop_eq_getElem_cons hk]; rfl
theorem lettr_size (k : Nat) : (lettr k).size ≤ 1 := by unfold lettr; split <;> exact Nat.le_refl _
theorem nameR_size {s : ByteArray} (h : s.size ≤ 9223372036854775807) : (nameR s).size ≤ 9223372036854775807 := by
  unfold nameR; repeat' split
  all_goals first | exact h | exact Nat.le_trans (lettr_size _) (by decide)
theorem changeR_ok {l : List Fld} {nx : Int} {c : Chg} (h : c.ok) : (changeR l nx c).ok := by
  obtain ⟨h1, h2, h3⟩ := h
  refine ⟨nameR_size h1, nameR_size h2, ?_⟩
  show (sepR c.sep).size ≤ _
  unfold sepR; split
  · exact h3
  · exact (by decide : (1 : Nat) ≤ 9223372036854775807)
theorem wpl_pushb {P : Program} {ops : Array Oper} {rest : List Oper} {o : Oper} {a : Act} {Q : Exit → Act → World → Prop} {α : Type} {enc : α → List Value} {sz : Nat} {w0 W : World} {l : List α} (x : α) {base g : Nat} {v : Value} (hs : ∀ x, (enc x).length = sz) (h1 : (enc x).all (fun u => u.oneCell') = true)
    (hgd : o.guard = none) (s y : Operand) (t e : TypeId) (z : Value) (bytes : Nat) (ho : o.op = .call { callee := .builtin .append, args := #[s, y], argTypes := #[t, t] })
    (ht : P.underlying t = some (.slice e)) (hinfo : (P.info? e).map (fun i => (i.zero, i.size, i.bytes)) = some (some z, sz, bytes)) (hz : z.cells.size = sz) (hs0 : 0 < sz) (hb0 : 0 < bytes)
    (hsv : a.eval s = v) (hy : a.eval y = .slice (some ⟨g, 0, Option.none⟩) 1 1) (hbox : Box W g (enc x) e) (HO : Own enc sz W base e v l) (HB : Below w0.heap.size w0 W) (hbase : base ≤ W.heap.size) (hw0 : w0.heap.size ≤ base) (hl : (l.length + 1) * bytes ≤ 140737488355328)
    (h : ∀ A1 c1 w1, Own enc sz w1 base e (.slice A1 (l.length + 1) c1) (l ++ [x]) → Below w0.heap.size w0 w1 → W.grownBy w1 v.ownBlock → wpList P ops Q rest (a.put o.dst (.slice A1 (l.length + 1) c1)) w1) : wpList P ops Q (o :: rest) a W :=
  wpList_plain hgd fun _ hK => wp_push x hs h1 s y t e z bytes ho ht hinfo hz hs0 hb0 hsv hy hbox HO HB hbase hw0 hl (fun A1 c1 w1 a b c => hK _ _ (h A1 c1 w1 a b c))
theorem Rd.grow2 {α : Type} {enc : α → List Value} {sz : Nat} {w w' : World} {A : Option Addr} {l : List α} {base : Nat} (h : Rd enc sz w A l) (hf : Frm base A) {row : Option Nat} (hg : w.grownBy w' row) (hr : ∀ k, row = some k → k < base) : Rd enc sz w' A l := by
  refine ⟨h.1, h.2.imp id ?_⟩
  rintro ⟨b, o, rfl, hc⟩
  refine ⟨b, o, rfl, fun j x i u' hj hi => ?_⟩
  have h2 := hc j x i u' hj hi
  have hb := hf _ rfl
  have e := hg.block b (cell_lt h2) (fun he => by have := hr b he.symm; simp at hb; omega)
  unfold World.cell? at h2 ⊢
  rw [e]; exact h2
theorem Own.lt {α : Type} {enc : α → List Value} {sz : Nat} {w : World} {base : Nat} {e : TypeId} {v : Value} {l : List α} (h : Own enc sz w base e v l) : ∀ k, v.ownBlock = some k → k < w.heap.size := fun k hk => (World.ownsRow.lt h k hk).2
set_option maxRecDepth 100000 in
set_option maxHeartbeats 1600000 in
theorem rMade (A0 : Option Addr) (c0 : Nat) (cs : List Chg) (n : Nat) (w : World) (hr : RdG w A0 cs) (hn : n ≤ 400) (hs : oks cs) :
    Calls Try.prog 8 #[.slice A0 cs.length c0, .int .i64 n] w (RetG w (madeR cs n)) := by
  have hl0 := hr.1
  go_enter Try.func8, Try.ntmps8
  go_upto_region 2 with (go_at_call 27; refine (rNew _).mono ?_; rintro e w1 ⟨rfl, hb⟩)
  have hz := hb.size
  refine wp_letter ?_
  intro W hW
  have h1 : Box W w1.heap.size [.slice none 0 0, .int .i64 1] 31 := by subst hW; exact box_new _ _ _ rfl
  have hB : Below w.heap.size w W := by subst hW; exact below_alloc hb _
  have hWs : W.heap.size = w1.heap.size + 1 := by subst hW; simp
  clear hW
  have hml : (cs.take n).length = min n cs.length := by simp
  go_wp2
  go_loopw [6, 7] (fun q i wr => ∃ (k : Nat) (A : Option Addr) (cp : Nat) (l : List Fld) (nx : Int) (out : List Chg), i = .int .i64 k ∧ k ≤ (cs.take n).length ∧ Hid (madeGo ((cs.take n).drop k) (l, nx) out = madeR cs n) ∧ Below w.heap.size w wr ∧ Box wr w1.heap.size [.slice A l.length cp, .int .i64 nx] 31 ∧ RdF wr A l ∧ l.length ≤ 2 * k ∧ 1 ≤ nx ∧ nx ≤ 1 + 2 * k ∧ fsok l ∧ out.length ≤ k ∧ Own Chg.enc 8 wr (w1.heap.size + 1) 43 q out) (fun _ i _ => (cs.take n).length - (intOf i).toNat)
  case atStart => exact ⟨0, none, 0, [], 1, [], rfl, by omega, rfl, below_alloc hB _, h1.alloc _, Rd.nil _ _ _ _, by simp, by omega, by omega, fun f hf => by simp at hf, by simp, Own.lit _ _ _ _ (by omega) hWs.symm⟩
  case round =>
    obtain ⟨k, A, cp, l, nx, out, rfl, hk, hgo, HB, k1, hrl, hll, hnx0, hnx1, hfs, hol, HO⟩ := hrel
    have k1z := k1.lt; have k1c0 := k1.cell 0 _ rfl; have k1f0 := k1.frozen 0; have k1c1 := k1.cell 1 _ rfl; have k1f1 := k1.frozen 1
    by_cases hlt : k < (cs.take n).length
    · have hkn : k < n := by omega
      have hkc : k < cs.length := by omega
      have hge : (cs.take n)[k] = cs[k] := List.getElem_take
      obtain ⟨b, o, rfl, hbw, hb0, f0, f1, f2, f3, f4, f5, f6, f7⟩ := RdG.atk hr HB k hkc
      have hi0 : (0 : Int) ≤ (k : Int) := by omega
      have hi1 : (k : Int) < (cs.length : Int) := by omega
      have hi2 : (k : Int) < (n : Int) := by omega
      have hck := hs cs[k] (List.getElem_mem hkc)
      have hst := Lib.hid (madeGo_step hlt (l, nx) out)
      rw [hge] at hst
      have hck2 := changeR_ok (l := l) (nx := nx) hck
      generalize hC : changeR l nx cs[k] = c at *
      have hgr := Lib.hid (applyR_grows l nx c)
      have hfr := Lib.hid (applyR_fsok (nx := nx) hfs hck2)
      go_upto_region 6 with (fail)
      go_cut [8] (fun p wc => ∃ (b : Nat), p = .pointer (some ⟨b, 0, none⟩) ∧ wr.heap.size ≤ b ∧ Below wr.heap.size wr wc ∧ Box wc b c.enc 43)
      case first =>
        refine region_ord (fun w' => Below wr.heap.size wr w') [7] (.q 0 (.q 1 (.q 2 (.q 3 (.q 4 (.two 5 6 (.g 6 (.g 7 .e)) (.g 5 (.g 7 .e)))))))) (by kernel_rfl) (by kernel_rfl) (fun _ _ d _ _ h => by cases d <;> exact h) (by repeat (first | exact below_refl _ | apply below_alloc | apply below_drew | apply below_drewN)) ?_
        repeat (refine ord_q (v := ?_) rfl (by rfl) ?_ ?_; rotate_left; (focus (intro w' hS; have s0 := cell_keep hS k1c0; have s1 := cell_keep hS k1c1; have s2 := cell_keep hS f0; have s3 := cell_keep hS f1; have s4 := cell_keep hS f2; have s5 := cell_keep hS f3; have s6 := cell_keep hS f4; have s7 := cell_keep hS f5; have s8 := cell_keep hS f6; have s9 := cell_keep hS f7; go_simp; exact rfl)); simp only [Act.put, List.setIfInBounds_toArray, List.set_cons_zero, List.set_cons_succ])
        refine ord_two rfl rfl (by rfl) (by rfl) ?_ ?_
        · intro K hK; go_simp
          refine (rChange _ _ _ _ cs[k] _ (hrl.keep (by repeat (first | exact below_refl _ | apply below_alloc | apply below_drew | apply below_drewN))) (by omega) hck).mono ?_
          rintro e wa ⟨rfl, hba⟩
          rw [hC]
          have hba := below_of (by exact (by repeat (first | exact below_refl _ | apply below_alloc | apply below_drew | apply below_drewN)) : Below wr.heap.size wr wr.drew) hba
          refine hK.out _ _ hba ?_
          refine ord_g (by rfl) (by rfl) ?_; intro K hK; go_simp; refine hK.out _ _ (below_alloc hba _) ?_
          refine ord_l (by rfl) rfl (by rfl) ?_; intro K hK; go_simp; refine hK.out _ _ ?_
          refine ord_e ?_
          go_wp2
          go_meet
          case rel => exact ⟨_, rfl, hba.size, below_alloc hba _, box_new _ _ _ rfl⟩
        · intro K hK; go_simp; refine hK.out _ _ (by repeat (first | exact below_refl _ | apply below_alloc | apply below_drew | apply below_drewN)) ?_
          refine ord_g (by rfl) (by rfl) ?_; intro K hK
          go_simp
          refine (rChange _ _ _ _ cs[k] _ (hrl.keep (by repeat (first | exact below_refl _ | apply below_alloc | apply below_drew | apply below_drewN))) (by omega) hck).mono ?_
          rintro e wa ⟨rfl, hba⟩
          rw [hC]
          have hbx := (box_new wr zChg 43 rfl).keep (below_of (by repeat (first | exact below_refl _ | apply below_alloc | apply below_drew | apply below_drewN)) hba)
          have hba := below_of (by exact (by repeat (first | exact below_refl _ | apply below_alloc | apply below_drew | apply below_drewN)) : Below wr.heap.size wr (wr.alloc (.cells zChg.toArray 43)).drew) hba
          refine hK.out _ _ hba ?_
          have hbxz := hbx.lt; have hbxc0 := hbx.cell 0 _ rfl; have hbxf0 := hbx.frozen 0; have hbxc1 := hbx.cell 1 _ rfl; have hbxf1 := hbx.frozen 1; have hbxc2 := hbx.cell 2 _ rfl; have hbxf2 := hbx.frozen 2; have hbxc3 := hbx.cell 3 _ rfl; have hbxf3 := hbx.frozen 3; have hbxc4 := hbx.cell 4 _ rfl; have hbxf4 := hbx.frozen 4; have hbxc5 := hbx.cell 5 _ rfl; have hbxf5 := hbx.frozen 5; have hbxc6 := hbx.cell 6 _ rfl; have hbxf6 := hbx.frozen 6; have hbxc7 := hbx.cell 7 _ rfl; have hbxf7 := hbx.frozen 7
          refine ord_l (by rfl) rfl (by rfl) ?_; intro K hK; go_simp; refine hK.out _ _ ?_
          refine ord_e ?_
          go_wp2
          go_meet
          case rel => exact ⟨_, rfl, Nat.le_refl _, below_set8 hba (Nat.le_refl _) _ _ _ _ _ _ _ _, hbx.set8 _ _ _ _ _ _ _ _⟩
      case rest =>
        obtain ⟨b8, rfl, hb8, HBc, m8⟩ := hcut
        have m1 := k1.keep HBc
        have HO1 := HO.kept HBc
        have m1z := m1.lt; have m1c0 := m1.cell 0 _ rfl; have m1f0 := m1.frozen 0; have m1c1 := m1.cell 1 _ rfl; have m1f1 := m1.frozen 1; have m8z := m8.lt; have m8c0 := m8.cell 0 _ rfl; have m8f0 := m8.frozen 0; have m8c1 := m8.cell 1 _ rfl; have m8f1 := m8.frozen 1; have m8c2 := m8.cell 2 _ rfl; have m8f2 := m8.frozen 2; have m8c3 := m8.cell 3 _ rfl; have m8f3 := m8.frozen 3; have m8c4 := m8.cell 4 _ rfl; have m8f4 := m8.frozen 4; have m8c5 := m8.cell 5 _ rfl; have m8f5 := m8.frozen 5; have m8c6 := m8.cell 6 _ rfl; have m8f6 := m8.frozen 6; have m8c7 := m8.cell 7 _ rfl; have m8f7 := m8.frozen 7
        have hBc := below_of HB HBc
        go_upto_region 8 with (go_at_call 16; refine (rApply _ _ _ _ c _ (hrl.keep (below_of HBc (by repeat (first | exact below_refl _ | apply below_alloc | apply below_drew | apply below_drewN)))) (by omega) (by omega) (by omega) hck2 hfs).mono ?_; rintro e w2 ⟨A1, c1, rfl, hc1, hr1, hf1, hb⟩)
        generalize hR : applyR l nx c = r at *
        refine wp_letter ?_
        intro W8 hW
        have hB8 : Below wc.heap.size wc W8 := by rw [hW]; exact below_alloc hb _
        have p9 : Box W8 w2.heap.size [.slice A1 r.2.1.length c1, .int .i64 r.2.2] 31 := by rw [hW]; exact box_new _ _ _ rfl
        have hr8 : RdF W8 A1 r.2.1 := by rw [hW]; exact hr1.keep (by repeat (first | exact below_refl _ | apply below_alloc | apply below_drew | apply below_drewN))
        have hz2 := hb.size
        clear hW
        have p1 := m1.keep hB8
        have p8 := m8.keep hB8
        have HO8 := HO1.kept hB8
        have hBw := below_of hBc hB8
        have p1z := p1.lt; have p1c0 := p1.cell 0 _ rfl; have p1f0 := p1.frozen 0; have p1c1 := p1.cell 1 _ rfl; have p1f1 := p1.frozen 1; have p8z := p8.lt; have p8c0 := p8.cell 0 _ rfl; have p8f0 := p8.frozen 0; have p8c1 := p8.cell 1 _ rfl; have p8f1 := p8.frozen 1; have p8c2 := p8.cell 2 _ rfl; have p8f2 := p8.frozen 2; have p8c3 := p8.cell 3 _ rfl; have p8f3 := p8.frozen 3; have p8c4 := p8.cell 4 _ rfl; have p8f4 := p8.frozen 4; have p8c5 := p8.cell 5 _ rfl; have p8f5 := p8.frozen 5; have p8c6 := p8.cell 6 _ rfl; have p8f6 := p8.frozen 6; have p8c7 := p8.cell 7 _ rfl; have p8f7 := p8.frozen 7; have p9z := p9.lt; have p9c0 := p9.cell 0 _ rfl; have p9c1 := p9.cell 1 _ rfl
        have hf8 := hf1.le (b' := w1.heap.size + 1) (by omega)
        obtain ⟨hg1, hg2⟩ := hgr.out
        cases he : (r.1 == 0)
        · have hv : Hid (madeGo ((cs.take n).drop (k + 1)) (l, nx) out = madeR cs n) := by rw [← hgo.out, hst.out, if_neg (by rw [he]; decide)]; exact rfl
          go_wp2
          go_roundw
          case rel => exact ⟨k + 1, A, cp, l, nx, out, by go_num, by omega, hv, hBw, p1, (hrl.keep HBc).keep hB8, by omega, hnx0, by omega, hfs, by omega, HO8⟩
          case measure => simp [intOf]; omega
        · have hv : Hid (madeGo ((cs.take n).drop (k + 1)) r.2 (out ++ [c]) = madeR cs n) := by rw [← hgo.out, hst.out, if_pos he]; exact rfl
          obtain ⟨hg3, hg4⟩ := hg2 (by simpa using he)
          obtain ⟨Av, cv, rfl, hcv⟩ := HO8.slice
          have hsv := HO.lt
          have HO9 := (HO8.set (a := ⟨w1.heap.size, 0, none⟩) (by simp) (.slice A1 r.2.1.length c1)).set (a := ⟨w1.heap.size, 1, none⟩) (by simp) (.int .i64 r.2.2)
          have hB9 := below_set (below_set hBw (p := ⟨w1.heap.size, 0, none⟩) (by first | omega | (simp; done) | (simp; omega)) (.slice A1 r.2.1.length c1)) (p := ⟨w1.heap.size, 1, none⟩) (by first | omega | (simp; done) | (simp; omega)) (.int .i64 r.2.2)
          have hr9 := (hr8.far (p := ⟨w1.heap.size, 0, none⟩) hf8 (by simp) (.slice A1 r.2.1.length c1)).far (p := ⟨w1.heap.size, 1, none⟩) hf8 (by simp) (.int .i64 r.2.2)
          have p19 := (p1.set 0 (.slice A1 r.2.1.length c1)).set 1 (.int .i64 r.2.2)
          go_wp2_with (at_builtin; refine wpl_pushb c (enc := Chg.enc) (g := W8.heap.size) Chg.len rfl rfl _ _ 22 43 _ 88 rfl Try.underlying22 infoG rfl (by omega) (by omega) (by rfl) (by rfl) (box_new _ _ _ (by simp)) (HO9.kept (below_alloc (below_refl _) _)) (below_alloc hB9 _) (by first | omega | (simp; done) | (simp; omega)) (by first | omega | (simp; done) | (simp; omega)) (by first | omega | (simp; done) | (simp; omega)) ?_; intro A2 c2 w9 HO10 HB10 hg10)
          go_roundw
          case rel => exact ⟨k + 1, A1, c1, r.2.1, r.2.2, out ++ [c], by go_num, by omega, hv, HB10, (p19.alloc _).grown hg10 (HO9.ne (by omega)), (hr9.keep (by repeat (first | exact below_refl _ | apply below_alloc | apply below_drew | apply below_drewN))).grow2 hf1 hg10 (fun j hj => Nat.lt_of_lt_of_le (hsv j hj) HBc.size), by omega, by omega, by omega, hfr.out, by simp; omega, HO10⟩
          case measure => simp [intOf]; omega
    · have hfin : Hid (madeR cs n = out) := by rw [← hgo.out, List.drop_eq_nil_of_le (by omega)]; exact rfl
      obtain ⟨A2, c2, he, hc2, hr2, hf2⟩ := HO.rd Chg.len (by omega)
      cases he
      by_cases hkn : k < n
      · have hi3 : ¬ ((k : Int) < (cs.length : Int)) := by omega
        go_wp2
        exact end_tmp rfl rfl rfl (by rw [hfin.out]; exact ⟨A2, c2, rfl, hc2, hr2, hf2.le (by omega), HB⟩)
      · have hi3 : ¬ ((k : Int) < (n : Int)) := by omega
        go_wp2
        all_goals exact end_tmp rfl rfl rfl (by rw [hfin.out]; exact ⟨A2, c2, rfl, hc2, hr2, hf2.le (by omega), HB⟩)
end Go.Proofs.Ythcphdgfdkgimaa
