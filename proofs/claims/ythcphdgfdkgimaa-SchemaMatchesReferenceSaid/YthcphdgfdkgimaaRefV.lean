/- Path and Find of both packages. -/
import Derived.Test.YthcphdgfdkgimaaRefU
import Derived.Deep.LoopGhost
set_option linter.unusedSimpArgs false
set_option linter.unusedVariables false
namespace Go.Proofs.Ythcphdgfdkgimaa
open Go.RowKit
def joinP (a b : ByteArray) : ByteArray := if a.toList.isEmpty = true then b else a ++ ⟨#[46]⟩ ++ b
def pathP (l : List Fld) : Nat → Int → ByteArray
  | 0, _ => ⟨#[]⟩
  | n + 1, id => if hasF l id = true then joinP (pathP l n (getF l id).par) (getF l id).name else ⟨#[]⟩
def Chain (l : List Fld) : Nat → Int → Prop
  | 0, id => hasF l id = false
  | n + 1, id => hasF l id = true → Chain l n (getF l id).par
theorem chain_no {l : List Fld} {id : Int} (h : hasF l id = false) : ∀ n, Chain l n id
  | 0 => h
  | n + 1 => fun h' => by rw [h] at h'; cases h'
theorem path_no {l : List Fld} {id : Int} (h : hasF l id = false) : ∀ n, pathP l n id = ⟨#[]⟩
  | 0 => rfl
  | n + 1 => by unfold pathP; rw [h]; rfl
theorem chain_succ {l : List Fld} : ∀ (n : Nat) (id : Int), Chain l n id → Chain l (n + 1) id
  | 0, id, h => chain_no h 1
  | n + 1, id, h => fun h' => chain_succ n _ (h h')
theorem chain_le {l : List Fld} {n m : Nat} {id : Int} (h : Chain l n id) (hm : n ≤ m) : Chain l m id := by
  induction hm with
  | refl => exact h
  | step _ ih => exact chain_succ _ _ ih
theorem has_zero {l : List Fld} {nx : Int} (h : Nums l nx) : hasF l 0 = false := by
  rw [← Bool.not_eq_true, has_find]
  rintro ⟨f, hf⟩
  have := (h.2 f (find_mem hf).1).1
  have := (find_mem hf).2
  omega
theorem chain_dp {l : List Fld} {nx : Int} (h : Nums l nx) {n : Nat} {id : Int} (hd : Dp l n id) : Chain l n id := by
  induction hd with
  | zero => exact has_zero h
  | up hf h0 _ ih => intro _; rw [get_find hf]; exact ih
theorem chain_all {l : List Fld} {nx : Int} (h : Inv l nx) (id : Int) : Chain l 8 id := by
  cases hh : hasF l id
  · exact chain_no hh 8
  · obtain ⟨f, hf⟩ := has_find.1 hh
    obtain ⟨n, a, b⟩ := h.tr.deep f (find_mem hf).1
    rw [(find_mem hf).2] at b
    exact chain_le (chain_dp h.nums b) a
theorem name_size {s : ByteArray} (h : nameOk s = true) : 1 ≤ s.size ∧ s.size ≤ 32 := by
  unfold nameOk at h; simp only [Bool.and_eq_true, decide_eq_true_eq] at h; exact ⟨h.1.2, h.2⟩
theorem get_mem {l : List Fld} {id : Int} (h : hasF l id = true) : getF l id ∈ l := by
  obtain ⟨f, hf⟩ := has_find.1 h
  rw [get_find hf]; exact (find_mem hf).1
theorem join_size {a b : ByteArray} : (joinP a b).size ≤ a.size + 1 + b.size := by
  unfold joinP; split
  · omega
  · rw [ByteArray.size_append, ByteArray.size_append]; exact Nat.le_refl _
theorem path_size {l : List Fld} (hn : ∀ f ∈ l, nameOk f.name = true) : ∀ (n : Nat) (id : Int), (pathP l n id).size ≤ 33 * n
  | 0, id => Nat.zero_le _
  | n + 1, id => by
    unfold pathP
    split
    · rename_i h
      have h1 := path_size hn n (getF l id).par
      have h2 := (name_size (hn _ (get_mem h))).2
      have h3 := @join_size (pathP l n (getF l id).par) (getF l id).name
      omega
    · exact Nat.zero_le _
theorem end_str {P : Program} {fn : Func} {R : Ending → World → Prop} {a : Act} {w : World} {x y : ByteArray} {t : Tmp} (hr : fn.results = #[.tmp t]) (hv : a.tmps.getD t undef = .string x) (hd : a.defers = []) (hxy : x = y) (hR : R (.returned (.string y)) w) : bodyPost P fn R .ret a w := end_tmp hr (hv.trans (by rw [hxy])) hd hR
set_option maxRecDepth 100000 in
set_option maxHeartbeats 1600000 in
theorem sPath (A : Option Addr) (c : Nat) (l : List Fld) (nx : Int) (hn : ∀ f ∈ l, nameOk f.name = true) : ∀ (n : Nat) (id : Int) (w : World), n ≤ 8 → Chain l n id → RdF w A l →
    Calls Try.prog 24 #[.agg #[.slice A l.length c, .int .i64 nx], .int .i64 id] w fun e w' => e = .returned (.string (pathP l n id)) ∧ Below w.heap.size w w' := by
  intro n
  induction n with
  | zero =>
    intro id w _ hc hr
    have hh : hasF l id = false := hc
    have hp := Lib.hid (path_no hh 0)
    go_enter Try.func24, Try.ntmps24
    go_upto_region 2 with (go_at_call 19; refine (sField _ _ _ _ _ _ (hr.keep (by repeat (first | exact below_refl _ | apply below_alloc | apply below_drew | apply below_drewN)))).mono ?_; rintro e w1 ⟨rfl, hb⟩)
    go_wp2
    exact end_str rfl rfl rfl hp.out.symm ⟨rfl, below_alloc (below_of (by repeat (first | exact below_refl _ | apply below_alloc | apply below_drew | apply below_drewN)) hb) _⟩
  | succ n ih =>
    intro id w hn8 hc hr
    cases hh : hasF l id
    · have hp := Lib.hid (path_no hh (n + 1))
      go_enter Try.func24, Try.ntmps24
      go_upto_region 2 with (go_at_call 19; refine (sField _ _ _ _ _ _ (hr.keep (by repeat (first | exact below_refl _ | apply below_alloc | apply below_drew | apply below_drewN)))).mono ?_; rintro e w1 ⟨rfl, hb⟩)
      go_wp2
      exact end_str rfl rfl rfl hp.out.symm ⟨rfl, below_alloc (below_of (by repeat (first | exact below_refl _ | apply below_alloc | apply below_drew | apply below_drewN)) hb) _⟩
    · have hc2 := hc hh
      have hp : Hid (pathP l (n + 1) id = joinP (pathP l n (getF l id).par) (getF l id).name) := Lib.hid (by show (if hasF l id = true then _ else _) = _; rw [if_pos hh])
      have hps := path_size hn n (getF l id).par
      have hns := (name_size (hn _ (get_mem hh))).2
      have hcl := fun w hw => ih (getF l id).par w (by omega) hc2 hw
      clear ih hc hc2
      go_enter Try.func24, Try.ntmps24
      go_upto_region 2 with (go_at_call 19; refine (sField _ _ _ _ _ _ (hr.keep (by repeat (first | exact below_refl _ | apply below_alloc | apply below_drew | apply below_drewN)))).mono ?_; rintro e w1 ⟨rfl, hb⟩)
      refine wp_letter ?_
      intro W hW
      have h2 : Box W w.heap.size [.slice A l.length c, .int .i64 nx] 31 := by subst hW; exact (((box_new _ _ _ rfl).keep hb)).alloc _
      have h5 : Box W w1.heap.size (getF l id).enc 53 := by subst hW; exact box_new _ _ _ rfl
      have hB : Below w.heap.size w W := by subst hW; exact below_alloc (below_of (by repeat (first | exact below_refl _ | apply below_alloc | apply below_drew | apply below_drewN)) hb) _
      clear hW
      generalize getF l id = f at *
      have h2z := h2.lt; have h2c0 := h2.cell 0 _ rfl; have h2c1 := h2.cell 1 _ rfl; have h5z := h5.lt; have h5c0 := h5.cell 0 _ rfl; have h5c1 := h5.cell 1 _ rfl; have h5c2 := h5.cell 2 _ rfl; have h5c3 := h5.cell 3 _ rfl
      go_wp2_with (go_at_call 24; (with_reducible refine (hcl _ (hr.keep hB)).mono ?_); rintro e w9 ⟨rfl, hb9⟩; have k5 := h5.keep hb9; have k5z := k5.lt; have k5c0 := k5.cell 0 _ rfl; have k5c1 := k5.cell 1 _ rfl; have k5c2 := k5.cell 2 _ rfl; have k5c3 := k5.cell 3 _ rfl)
      · have he : (!(pathP l n f.par).toList.isEmpty) = true := by assumption
        exact end_str rfl rfl rfl (by rw [hp.out]; unfold joinP; rw [if_neg (by simpa using he)]) ⟨rfl, below_of hB hb9⟩
      · have he : (!(pathP l n f.par).toList.isEmpty) = false := by assumption
        exact end_str rfl rfl rfl (by rw [hp.out]; unfold joinP; rw [if_pos (by simpa using he)]) ⟨rfl, below_of hB hb9⟩
def outP (p out : ByteArray) : ByteArray := if out.toList.isEmpty = true then p else if p.toList.isEmpty = true then out else p ++ ⟨#[46]⟩ ++ out
theorem emp_iff (s : ByteArray) : s.toList.isEmpty = true ↔ s = ⟨#[]⟩ := by
  rw [em_size]; simp only [decide_eq_true_eq]
  constructor
  · intro h; obtain ⟨⟨x⟩⟩ := s; simp [ByteArray.size] at h; subst h; rfl
  · rintro rfl; rfl
theorem size_emp {s : ByteArray} (h : 1 ≤ s.size) : s.toList.isEmpty = false := by rw [em_size]; exact decide_eq_false (by omega)
theorem emp_app (a b : ByteArray) (h : 1 ≤ b.size) : (a ++ b).toList.isEmpty = false := size_emp (by rw [ByteArray.size_append]; omega)
theorem out_step (q nm out : ByteArray) (h : 1 ≤ nm.size) : outP (joinP q nm) out = outP q (if out.toList.isEmpty = true then nm else nm ++ ⟨#[46]⟩ ++ out) := by
  have hn : nm.toList.isEmpty = false := size_emp h
  have hj : (joinP q nm).toList.isEmpty = false := by
    unfold joinP; split
    · exact hn
    · exact emp_app _ _ h
  unfold outP
  by_cases ho : out.toList.isEmpty = true
  · rw [if_pos ho, if_pos ho, hn]
    simp only [Bool.false_eq_true, if_false]
    unfold joinP; rfl
  · rw [if_neg ho, if_neg ho, hj]
    have h2 : (nm ++ (⟨#[46]⟩ : ByteArray) ++ out).toList.isEmpty = false := size_emp (by rw [ByteArray.size_append, ByteArray.size_append]; omega)
    rw [h2]
    simp only [Bool.false_eq_true, if_false]
    unfold joinP
    by_cases hq : q.toList.isEmpty = true
    · rw [if_pos hq, if_pos hq]
    · rw [if_neg hq, if_neg hq]; simp only [ByteArray.append_assoc]
theorem out_end (out : ByteArray) : outP ⟨#[]⟩ out = out := by
  unfold outP
  by_cases ho : out.toList.isEmpty = true
  · rw [if_pos ho]; exact ((emp_iff out).1 ho).symm
  · rw [if_neg ho, if_pos ((emp_iff _).2 rfl)]
set_option maxRecDepth 100000 in
set_option maxHeartbeats 1600000 in
theorem rPath (A : Option Addr) (c : Nat) (l : List Fld) (nx : Int) (hn : ∀ f ∈ l, nameOk f.name = true) (id : Int) (w : World) (hc : Chain l 8 id) (hr : RdF w A l) :
    Calls Try.prog 22 #[.agg #[.slice A l.length c, .int .i64 nx], .int .i64 id] w fun e w' => e = .returned (.string (pathP l 8 id)) ∧ Below w.heap.size w w' := by
  go_enter Try.func22, Try.ntmps22
  go_wp2
  go_loopg [1, 5] 8 (fun n q s wr => ∃ (x : Int) (out : ByteArray), q = .int .i64 x ∧ s = .string out ∧ n ≤ 8 ∧ Chain l n x ∧ Hid (outP (pathP l n x) out = pathP l 8 id) ∧ out.size ≤ 33 * (8 - n) ∧ Below w.heap.size w wr ∧ Box wr w.heap.size [.slice A l.length c, .int .i64 nx] 31)
  case atStart => exact ⟨id, ⟨#[]⟩, rfl, rfl, by omega, hc, Lib.hid (by unfold outP; rw [if_pos ((emp_iff _).2 rfl)]), Nat.zero_le _, (by repeat (first | exact below_refl _ | apply below_alloc | apply below_drew | apply below_drewN)), box_new _ _ _ rfl⟩
  case round =>
    obtain ⟨x, out, rfl, rfl, hn8, hch, hout, hos, HB, k0⟩ := hrel
    have k0z := k0.lt; have k0c0 := k0.cell 0 _ rfl; have k0c1 := k0.cell 1 _ rfl
    have hrr := hr.keep HB
    cases hh : hasF l x
    · have hp := Lib.hid (path_no hh gk)
      go_upto_region 3 with (go_at_call 20; refine (rField _ _ _ _ _ _ hrr).mono ?_; rintro e w1 ⟨rfl, hb⟩)
      go_wp2
      exact end_str rfl rfl rfl (by rw [← hout.out, hp.out, out_end]) ⟨rfl, below_alloc (below_of HB hb) _⟩
    · obtain ⟨m, rfl⟩ : ∃ m, gk = m + 1 := by
        cases gk with
        | zero => exact absurd (hh.symm.trans hch) (by decide)
        | succ m => exact ⟨m, rfl⟩
      have hc2 := hch hh
      have hp : Hid (pathP l (m + 1) x = joinP (pathP l m (getF l x).par) (getF l x).name) := Lib.hid (by show (if hasF l x = true then _ else _) = _; rw [if_pos hh])
      have hns := name_size (hn _ (get_mem hh))
      clear hch hc
      go_upto_region 3 with (go_at_call 20; refine (rField _ _ _ _ _ _ hrr).mono ?_; rintro e w1 ⟨rfl, hb⟩)
      refine wp_letter ?_
      intro W hW
      have h2 : Box W w.heap.size [.slice A l.length c, .int .i64 nx] 31 := by subst hW; exact (k0.keep hb).alloc _
      have h5 : Box W w1.heap.size (getF l x).enc 53 := by subst hW; exact box_new _ _ _ rfl
      have hB : Below w.heap.size w W := by subst hW; exact below_alloc (below_of HB hb) _
      clear hW
      generalize getF l x = f at *
      clear k0c0 k0c1
      have h2z := h2.lt; have h2c0 := h2.cell 0 _ rfl; have h2c1 := h2.cell 1 _ rfl; have h5z := h5.lt; have h5c0 := h5.cell 0 _ rfl; have h5c1 := h5.cell 1 _ rfl; have h5c2 := h5.cell 2 _ rfl; have h5c3 := h5.cell 3 _ rfl
      have hsz := ByteArray.size_append (a := f.name) (b := ⟨#[46]⟩)
      have hz1 : (ByteArray.mk #[46]).size = 1 := rfl
      have hos1 : (f.name ++ (⟨#[46]⟩ : ByteArray)).size ≤ 33 := by omega
      clear hsz hz1
      have hol : out.size ≤ 264 := by omega
      cases he : out.toList.isEmpty
      · have he2 : (out.toList == []) = false := by simpa using he
        go_wp2
        go_roundg m
        case rel => exact ⟨f.par, f.name ++ ⟨#[46]⟩ ++ out, rfl, rfl, by omega, hc2, Lib.hid (by rw [← hout.out, hp.out, out_step _ _ _ hns.1, he]; rfl), by rw [ByteArray.size_append]; omega, hB, h2⟩
        case measure => omega
      · have he2 : (out.toList == []) = true := by simpa using he
        go_wp2
        go_roundg m
        case rel => exact ⟨f.par, f.name, rfl, rfl, by omega, hc2, Lib.hid (by rw [← hout.out, hp.out, out_step _ _ _ hns.1, he]; rfl), by omega, hB, h2⟩
        case measure => omega
def findGo (l : List Fld) (p : ByteArray) : List Fld → Int × Bool
  | [] => (0, false)
  | f :: r => if ((pathP l 8 f.id).toList == p.toList) = true then (f.id, true) else findGo l p r
def findR (l : List Fld) (p : ByteArray) : Int × Bool := findGo l p l
theorem findGo_step {l r : List Fld} {p : ByteArray} {k : Nat} (hk : k < r.length) : findGo l p (r.drop k) = if ((pathP l 8 r[k].id).toList == p.toList) = true then (r[k].id, true) else findGo l p (r.drop (k + 1)) := by
  rw [List.drop_eq_getElem_cons hk]; rfl
set_option maxRecDepth 100000 in
set_option maxHeartbeats 1600000 in
theorem sFind (A : Option Addr) (c : Nat) (l : List Fld) (nx : Int) (hn : ∀ f ∈ l, nameOk f.name = true) (hc : ∀ id, Chain l 8 id) (p : ByteArray) (w : World) (hr : RdF w A l) :
    Calls Try.prog 21 #[.agg #[.slice A l.length c, .int .i64 nx], .string p] w fun e w' => e = .returned (.tuple #[.int .i64 (findR l p).1, .bool (findR l p).2]) ∧ Below w.heap.size w w' := by
  have hl1 := hr.1
  go_enter Try.func21, Try.ntmps21
  go_wp2
  go_loopw [11] (fun i wr => ∃ (k : Nat), i = .int .i64 k ∧ k ≤ l.length ∧ Hid (findGo l p (l.drop k) = findR l p) ∧ Below w.heap.size w wr ∧ Box wr w.heap.size [.slice A l.length c, .int .i64 nx] 31) (fun i _ => l.length - (intOf i).toNat)
  case atStart => exact ⟨0, rfl, by omega, rfl, (by repeat (first | exact below_refl _ | apply below_alloc | apply below_drew | apply below_drewN)), box_new _ _ _ rfl⟩
  case round =>
    obtain ⟨k, rfl, hk, hg, HB, k0⟩ := hrel
    by_cases hlt : k < l.length
    · obtain ⟨b, o, rfl, hbw, hb, f0, f1, f2, f3⟩ := RdF.atk hr HB k hlt
      have hi0 : (0 : Int) ≤ (k : Int) := by omega
      have hi1 : (k : Int) < (l.length : Int) := by omega
      have hst := Lib.hid (findGo_step (l := l) (p := p) hlt)
      go_upto_region 4 with (fail)
      refine wp_letter ?_
      intro W hW
      have h7 : Box W wr.heap.size l[k].enc 53 := by subst hW; exact box_new _ _ _ rfl
      have hB : Below wr.heap.size wr W := by subst hW; exact (by repeat (first | exact below_refl _ | apply below_alloc | apply below_drew | apply below_drewN))
      clear hW
      have k2 := k0.keep hB
      have hBw := below_of HB hB
      have hrw := hr.keep hBw
      have hck := hc l[k].id
      clear f0 f1 f2 f3
      have k2z := k2.lt; have k2c0 := k2.cell 0 _ rfl; have k2c1 := k2.cell 1 _ rfl; have h7z := h7.lt; have h7c0 := h7.cell 0 _ rfl; have h7c1 := h7.cell 1 _ rfl; have h7c2 := h7.cell 2 _ rfl; have h7c3 := h7.cell 3 _ rfl
      generalize l[k] = f at *
      go_wp2_with (go_at_call 24; (with_reducible refine (sPath _ _ _ _ hn 8 _ _ (Nat.le_refl _) hck hrw).mono ?_); rintro e w9 ⟨rfl, hb9⟩; have p7 := h7.keep hb9; have p7z := p7.lt; have p7c0 := p7.cell 0 _ rfl; have p7c1 := p7.cell 1 _ rfl; have p7c2 := p7.cell 2 _ rfl; have p7c3 := p7.cell 3 _ rfl)
      · have he : ((pathP l 8 f.id).toList == p.toList) = true := by assumption
        have hv : Hid (findR l p = (f.id, true)) := Lib.hid (by rw [← hg.out, hst.out, if_pos he])
        exact end_tmp2 rfl rfl rfl rfl ⟨by rw [hv.out]; rfl, below_of hBw hb9⟩
      · have he : ((pathP l 8 f.id).toList == p.toList) = false := by assumption
        go_roundw
        case rel => exact ⟨k + 1, by go_num, by omega, Lib.hid (by rw [← hg.out, hst.out, if_neg (by rw [he]; decide)]), below_of hBw hb9, k2.keep hb9⟩
        case measure => simp [intOf]; omega
    · have hv : Hid (findR l p = (0, false)) := Lib.hid (by rw [← hg.out, List.drop_eq_nil_of_le (by omega)]; rfl)
      go_wp2
      exact end_tmp2 rfl rfl rfl rfl ⟨by rw [hv.out]; rfl, HB⟩
set_option maxRecDepth 100000 in
set_option maxHeartbeats 1600000 in
theorem rFind (A : Option Addr) (c : Nat) (l : List Fld) (nx : Int) (hn : ∀ f ∈ l, nameOk f.name = true) (hc : ∀ id, Chain l 8 id) (p : ByteArray) (w : World) (hr : RdF w A l) :
    Calls Try.prog 23 #[.agg #[.slice A l.length c, .int .i64 nx], .string p] w fun e w' => e = .returned (.tuple #[.int .i64 (findR l p).1, .bool (findR l p).2]) ∧ Below w.heap.size w w' := by
  have hl1 := hr.1
  go_enter Try.func23, Try.ntmps23
  go_wp2
  go_loopw [6] (fun i wr => ∃ (k : Nat), i = .int .i64 k ∧ k ≤ l.length ∧ Hid (findGo l p (l.drop k) = findR l p) ∧ Below w.heap.size w wr ∧ Box wr w.heap.size [.slice A l.length c, .int .i64 nx] 31) (fun i _ => l.length - (intOf i).toNat)
  case atStart => exact ⟨0, rfl, by omega, rfl, (by repeat (first | exact below_refl _ | apply below_alloc | apply below_drew | apply below_drewN)), box_new _ _ _ rfl⟩
  case round =>
    obtain ⟨k, rfl, hk, hg, HB, k0⟩ := hrel
    have k0z := k0.lt; have k0c0 := k0.cell 0 _ rfl; have k0c1 := k0.cell 1 _ rfl
    by_cases hlt : k < l.length
    · obtain ⟨b, o, rfl, hbw, hb, f0, f1, f2, f3⟩ := RdF.atk hr HB k hlt
      have hi0 : (0 : Int) ≤ (k : Int) := by omega
      have hi1 : (k : Int) < (l.length : Int) := by omega
      have hst := Lib.hid (findGo_step (l := l) (p := p) hlt)
      have hrw := hr.keep HB
      have hck := hc l[k].id
      go_upto_region 4 with (fail)
      refine region_below (by kernel_rfl) (by kernel_rfl) ?_; (repeat (first | (refine quiet_on (v := ?_) (by rfl) ?_ ?_; rotate_left; (focus (intro w' hS; have s0 := cell_keep hS k0c0; have s1 := cell_keep hS k0c1; have s2 := cell_keep hS f0; go_simp; first | exact rfl | (refine (rPath _ _ _ _ hn _ _ hck (hrw.keep hS)).mono ?_; rintro e w1 ⟨rfl, hb⟩; refine ⟨?_, below_of hS hb⟩; exact rfl))); simp only [Act.put, List.setIfInBounds_toArray, List.set_cons_zero, List.set_cons_succ]) | (refine quiet_off (by rfl) ?_; simp only [Act.put, List.setIfInBounds_toArray, List.set_cons_zero, List.set_cons_succ]))); refine wpQuiet_nil ?_; intro wq hq; try dsimp only
      have q0 := k0.keep hq
      have g0 := cell_keep hq f0
      have g1 := cell_lt g0
      clear f0 f1 f2 f3 k0c0 k0c1
      have q0z := q0.lt; have q0c0 := q0.cell 0 _ rfl; have q0c1 := q0.cell 1 _ rfl
      generalize l[k] = f at *
      cases he : ((pathP l 8 f.id).toList == p.toList)
      · go_wp2
        go_roundw
        case rel => exact ⟨k + 1, by go_num, by omega, Lib.hid (by rw [← hg.out, hst.out, if_neg (by rw [he]; decide)]), below_of HB hq, q0⟩
        case measure => simp [intOf]; omega
      · have hv : Hid (findR l p = (f.id, true)) := Lib.hid (by rw [← hg.out, hst.out, if_pos he])
        go_wp2
        exact end_tmp2 rfl rfl rfl rfl ⟨by rw [hv.out]; rfl, below_of HB hq⟩
    · have hv : Hid (findR l p = (0, false)) := Lib.hid (by rw [← hg.out, List.drop_eq_nil_of_le (by omega)]; rfl)
      go_wp2
      exact end_tmp2 rfl rfl rfl rfl ⟨by rw [hv.out]; rfl, HB⟩
end Go.Proofs.Ythcphdgfdkgimaa
