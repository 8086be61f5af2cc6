/- Package schema, part D: ancestors. -/
import Derived.Test.YthcphdgfdkgimaaSchC
import Derived.WalkMore
set_option linter.unusedSimpArgs false
set_option linter.unusedVariables false
namespace Go.Proofs.Ythcphdgfdkgimaa
open Go.RowKit
abbrev encI (x : Int) : List Value := [.int .i64 x]
theorem lenI (x : Int) : (encI x).length = 1 := rfl
theorem infoI : (Try.prog.info? 3).map (fun i => (i.zero, i.size, i.bytes)) = some (some (.int .i64 0), 1, 8) := by kernel_rfl
/-- what is appended from here on, and the number at the end; k rounds are left -/
def ancGo (l : List Fld) : Nat → Int → List Int × Int
  | 0, id => ([], id)
  | k + 1, id => if id = 0 then ([], 0) else if hasF l id = false then ([id], id) else if k = 0 then ([id], id) else (id :: (ancGo l k (getF l id).par).1, (ancGo l k (getF l id).par).2)
def ancR (l : List Fld) (id : Int) : List Int × Int := ancGo l 9 id
theorem ancGo_zero (l : List Fld) {k : Nat} (hk : 0 < k) : ancGo l k 0 = ([], 0) := by cases k with | zero => omega | succ k => rfl
theorem ancGo_stop (l : List Fld) {k : Nat} {id : Int} (hk : 0 < k) (h0 : id ≠ 0) (h : hasF l id = false ∨ k = 1) : ancGo l k id = ([id], id) := by
  cases k with
  | zero => omega
  | succ k =>
    unfold ancGo; rw [if_neg h0]
    rcases h with h | h
    · rw [if_pos h]
    · split
      · rfl
      · rw [if_pos (by omega)]
theorem ancGo_step (l : List Fld) {k : Nat} {id : Int} (hk : 1 < k) (h0 : id ≠ 0) (h : hasF l id = true) : ancGo l k id = (id :: (ancGo l (k - 1) (getF l id).par).1, (ancGo l (k - 1) (getF l id).par).2) := by
  cases k with
  | zero => omega
  | succ k =>
    conv => lhs; unfold ancGo
    rw [if_neg h0, if_neg (by rw [h]; decide), if_neg (by omega)]; rfl
def RetN (w0 : World) (r : List Int × Int) (e : Ending) (w' : World) : Prop := ∃ A c, e = .returned (.tuple #[.slice A r.1.length c, .bool (r.2 == 0)]) ∧ r.1.length ≤ c ∧ RdI w' A r.1 ∧ Frm w0.heap.size A ∧ Below w0.heap.size w0 w'
theorem end_tmp2 {P : Program} {fn : Func} {R : Ending → World → Prop} {a : Act} {w : World} {u v : Value} {t s : Tmp} (hr : fn.results = #[.tmp t, .tmp s]) (hv : a.tmps.getD t undef = u) (hv2 : a.tmps.getD s undef = v) (hd : a.defers = []) (hR : R (.returned (.tuple #[u, v])) w) : bodyPost P fn R .ret a w := by
  have hv' : a.tmps[t]?.getD undef = u := by simpa using hv
  have hv2' : a.tmps[s]?.getD undef = v := by simpa using hv2
  refine bodyPost_ret ?_ hd hR
  simp [results, hr, hv', hv2']
set_option maxRecDepth 100000 in
set_option maxHeartbeats 1600000 in
theorem sAnc (A : Option Addr) (c : Nat) (l : List Fld) (nx id : Int) (w : World) (hr : RdF w A l) :
    Calls Try.prog 48 #[.agg #[.slice A l.length c, .int .i64 nx], .int .i64 id] w (RetN w (ancR l id)) := by
  go_enter Try.func48, Try.ntmps48
  go_wp2
  go_step3
  go_wp2
  go_step3
  go_wp2
  go_loopw [1, 6] (fun i q wr => ∃ (x : Int) (out : List Int), i = .int .i64 x ∧ out.length ≤ 8 ∧ Hid (ancR l id = (out ++ (ancGo l (9 - out.length) x).1, (ancGo l (9 - out.length) x).2)) ∧ Below w.heap.size w wr ∧ Box wr w.heap.size [.slice A l.length c, .int .i64 nx] 31 ∧ Own encI 1 wr (w.heap.size + 1) 3 q out) (fun _ q _ => 9 - (match q with | .slice _ n _ => n | _ => 0))
  case atStart => exact ⟨id, [], rfl, by simp, rfl, (by repeat (first | exact below_refl _ | apply below_alloc | apply below_drew | apply below_drewN)), box_new _ _ _ rfl, Own.none _ _ _ _ _⟩
  case round =>
    obtain ⟨x, out, rfl, hol, hgo, HB, k0, HO⟩ := hrel
    obtain ⟨Av, cv, rfl, hcv⟩ := HO.slice
    have k0z := k0.lt; have k0c0 := k0.cell 0 _ rfl; have k0c1 := k0.cell 1 _ rfl
    by_cases hx : x = 0
    · subst hx
      have hv : Hid (ancR l id = (out, 0)) := Lib.hid (by rw [hgo.out, ancGo_zero l (by omega)]; simp)
      obtain ⟨A2, c2, he, hc2, hr2, hf2⟩ := HO.rd lenI (by omega)
      cases he
      go_wp2
      exact end_tmp2 rfl rfl rfl rfl (by rw [hv.out]; exact ⟨_, _, rfl, hc2, hr2, hf2.le (by omega), HB⟩)
    · have hx' : (x != 0) = true := by simpa using hx
      go_upto_region 4 with (go_at_call 19; refine (sField _ _ _ _ _ _ (hr.keep (below_of HB (by repeat (first | exact below_refl _ | apply below_alloc | apply below_drew | apply below_drewN))))).mono ?_; rintro e w1 ⟨rfl, hb⟩)
      refine wp_letter ?_
      intro W4 hW
      have hB4 : Below wr.heap.size wr W4 := by rw [hW]; exact below_alloc hb _
      have p7 : Box W4 w1.heap.size (getF l x).enc 53 := by rw [hW]; exact box_new _ _ _ rfl
      clear hW
      have p0 := k0.keep hB4
      have HO4 := HO.kept hB4
      have hBw := below_of HB hB4
      have p0z := p0.lt; have p0c0 := p0.cell 0 _ rfl; have p0c1 := p0.cell 1 _ rfl; have p7z := p7.lt; have p7c0 := p7.cell 0 _ rfl; have p7c1 := p7.cell 1 _ rfl; have p7c2 := p7.cell 2 _ rfl; have p7c3 := p7.cell 3 _ rfl
      cases hh : hasF l x
      · have hv : Hid (ancR l id = (out ++ [x], x)) := Lib.hid (by rw [hgo.out, ancGo_stop l (by omega) hx (.inl hh)])
        go_wp2_with (at_builtin; refine wpl_pushb x (enc := encI) (g := W4.heap.size) lenI rfl rfl _ _ 50 3 _ 8 rfl Try.underlying50 infoI rfl (by omega) (by omega) (by rfl) (by rfl) (box_new _ _ _ (by simp)) (HO4.kept (below_alloc (below_refl _) _)) (below_alloc hBw _) (by first | omega | (simp; done) | (simp; omega)) (by first | omega | (simp; done) | (simp; omega)) (by first | omega | (simp; done) | (simp; omega)) ?_; intro A1 c1 w9 HO1 HB1 hg1)
        have hl9 : (out ++ [x]).length ≤ 140737488355328 := by simp; omega
        obtain ⟨A2, c2, he, hc2, hr2, hf2⟩ := HO1.rd lenI hl9
        simp only [List.length_append, List.length_singleton] at he
        cases he
        exact end_tmp2 rfl rfl rfl rfl (by rw [hv.out]; exact ⟨_, _, by simp, hc2, hr2, hf2.le (by omega), HB1⟩)
      · by_cases h8 : out.length = 8
        · have hv : Hid (ancR l id = (out ++ [x], x)) := Lib.hid (by rw [hgo.out, ancGo_stop l (by omega) hx (.inr (by omega))])
          have h8' : ((out.length : Int) == 8) = true := by rw [h8]; rfl
          go_wp2_with (at_builtin; refine wpl_pushb x (enc := encI) (g := W4.heap.size) lenI rfl rfl _ _ 50 3 _ 8 rfl Try.underlying50 infoI rfl (by omega) (by omega) (by rfl) (by rfl) (box_new _ _ _ (by simp)) (HO4.kept (below_alloc (below_refl _) _)) (below_alloc hBw _) (by first | omega | (simp; done) | (simp; omega)) (by first | omega | (simp; done) | (simp; omega)) (by first | omega | (simp; done) | (simp; omega)) ?_; intro A1 c1 w9 HO1 HB1 hg1)
          have hl9 : (out ++ [x]).length ≤ 140737488355328 := by simp; omega
          obtain ⟨A2, c2, he, hc2, hr2, hf2⟩ := HO1.rd lenI hl9
          simp only [List.length_append, List.length_singleton] at he
          cases he
          exact end_tmp2 rfl rfl rfl rfl (by rw [hv.out]; exact ⟨_, _, by simp [h8], hc2, hr2, hf2.le (by omega), HB1⟩)
        · have h8' : ((out.length : Int) == 8) = false := by simpa using (by omega : (out.length : Int) ≠ 8)
          have hv : Hid (ancR l id = ((out ++ [x]) ++ (ancGo l (9 - (out ++ [x]).length) (getF l x).par).1, (ancGo l (9 - (out ++ [x]).length) (getF l x).par).2)) := Lib.hid (by rw [hgo.out, ancGo_step l (by omega) hx hh]; simp; rw [show 8 - out.length = 9 - out.length - 1 by omega]; exact ⟨rfl, rfl⟩)
          go_wp2_with (at_builtin; refine wpl_pushb x (enc := encI) (g := W4.heap.size) lenI rfl rfl _ _ 50 3 _ 8 rfl Try.underlying50 infoI rfl (by omega) (by omega) (by rfl) (by rfl) (box_new _ _ _ (by simp)) (HO4.kept (below_alloc (below_refl _) _)) (below_alloc hBw _) (by first | omega | (simp; done) | (simp; omega)) (by first | omega | (simp; done) | (simp; omega)) (by first | omega | (simp; done) | (simp; omega)) ?_; intro A1 c1 w9 HO1 HB1 hg1; have x7 := (p7.alloc _).grown hg1 (HO4.ne_type p7 (by decide)); have x0 := (p0.alloc _).grown hg1 (HO4.ne (by omega)); have x7z := x7.lt; have x7c0 := x7.cell 0 _ rfl; have x7c1 := x7.cell 1 _ rfl; have x7c2 := x7.cell 2 _ rfl; have x7c3 := x7.cell 3 _ rfl; have x0z := x0.lt; have x0c0 := x0.cell 0 _ rfl; have x0c1 := x0.cell 1 _ rfl)
          go_roundw
          case rel => exact ⟨_, out ++ [x], rfl, by simp; omega, hv, HB1, (p0.alloc _).grown hg1 (HO4.ne (by omega)), by simpa using HO1⟩
          case measure => simp; omega
end Go.Proofs.Ythcphdgfdkgimaa
