/- Package schema, part H: DeleteFunc at remove's closure (made by tools/mk_schh.py). -/
import Derived.Test.YthcphdgfdkgimaaSchG
set_option linter.unusedSimpArgs false
set_option linter.unusedVariables false
namespace Go.Proofs.Ythcphdgfdkgimaa
open Go.RowKit
set_option maxHeartbeats 400000 in
theorem sRemoveC (q : Addr) (id : Int) (f : Fld) (w : World) (hq : w.cell? q = some (.int .i64 id)) : Calls Try.prog 74 #[fldV f, .pointer (some q)] w fun e w' => e = .returned (.bool (f.id == id)) ∧ Below w.heap.size w w' := by
  have hl := cell_lt hq
  have hq2 : (w.alloc (.cells f.enc.toArray 53)).cell? q = some (.int .i64 id) := cell_keep (by repeat (first | exact below_refl _ | apply below_alloc | apply below_drew | apply below_drewN)) hq
  go_enter Try.func74, Try.ntmps74
  go_wp2
  exact end_tmp rfl rfl rfl ⟨rfl, (by repeat (first | exact below_refl _ | apply below_alloc | apply below_drew | apply below_drewN))⟩
set_option maxHeartbeats 800000 in
theorem sRemoveF (A : Option Addr) (c : Nat) (l : List Fld) (q : Addr) (id : Int) (w : World) (hr : RdF w A l) (hq : w.cell? q = some (.int .i64 id)) :
    Calls Try.prog 70 #[.slice A l.length c, .func (.func 74) #[] #[.pointer (some q)]] w fun e w' => e = .returned (.int .i64 (firstR (fun g : Fld => g.id == id) l)) ∧ Below w.heap.size w w' := by
  have hl := hr.1
  go_enter Try.func70, Try.ntmps70
  go_wp2
  go_loopw [8] (fun i wr => ∃ (k : Nat), i = .int .i64 k ∧ k ≤ l.length ∧ Hid (firstGo (fun g : Fld => g.id == id) (l.drop k) k = firstR (fun g : Fld => g.id == id) l) ∧ Below w.heap.size w wr) (fun i _ => l.length - (intOf i).toNat)
  case atStart => exact ⟨0, rfl, by omega, rfl, below_refl _⟩
  case round =>
    obtain ⟨k, rfl, hk, hgo, HB⟩ := hrel
    by_cases hlt : k < l.length
    · obtain ⟨b, o, rfl, hbw, hb, f0, f1, f2, f3⟩ := RdF.atk hr HB k hlt
      have hi0 : (0 : Int) ≤ (k : Int) := by omega
      have hi1 : (k : Int) < (l.length : Int) := by omega
      have hst := Lib.hid (firstGo_step (p := fun g : Fld => g.id == id) hlt)
      go_wp2_with (go_at_call 74; refine (sRemoveC q id l[k] _ (cell_keep HB hq)).mono ?_; rintro e w1 ⟨rfl, hb1⟩)
      · have hp : (l[k].id == id) = true := by assumption
        exact end_int rfl rfl rfl (by rw [← hgo.out, hst.out]; exact (if_pos hp).symm) ⟨rfl, below_of HB hb1⟩
      · have hp : (l[k].id == id) = false := by assumption
        go_roundw
        case rel => exact ⟨k + 1, by go_num, by omega, by rw [← hgo.out, hst.out, if_neg (by rw [hp]; decide)]; exact rfl, below_of HB hb1⟩
        case measure => simp [intOf]; omega
    · go_wp2
      exact end_int rfl rfl rfl (by rw [← hgo.out, List.drop_eq_nil_of_le (by omega)]; rfl) ⟨rfl, HB⟩
theorem grown_below {w W W' : World} {row : Option Nat} (h : w.grownBy W row) (k : Below W.heap.size W W') : w.grownBy W' row := ⟨k.os.trans h.os, k.tape.trans h.tape, k.output.trans h.output, Nat.le_trans h.size k.size, fun b hb hr => (k.block b (Nat.lt_of_lt_of_le hb h.size)).trans (h.block b hb hr)⟩
theorem grown_set {w W : World} {g : Nat} (h : w.grownBy W (some g)) (i : Nat) (u : Value) : w.grownBy (W.setCell ⟨g, i, none⟩ u) (some g) := ⟨h.os, h.tape, h.output, by simpa using h.size, fun b hb hr => (Below.heap_setCell W ⟨g, i, none⟩ u b (fun e => hr (congrArg some e))).trans (h.block b hb hr)⟩
theorem grown_refl (w : World) (row : Option Nat) : w.grownBy w row := ⟨rfl, rfl, rfl, Nat.le_refl _, fun _ _ _ => rfl⟩
theorem grown_setCells {w : World} {g : Nat} : ∀ (Z : List Value) (o : Nat) (W : World), w.grownBy W (some g) → w.grownBy (W.setCells g o Z) (some g)
  | [], _, _, h => h
  | v :: r, o, W, h => grown_setCells r (o + 1) _ (grown_set h o v)
def keepP (id : Int) (f : Fld) : Bool := !(f.id == id)
theorem firstGo_keep (id : Int) : ∀ (l : List Fld) (k j : Nat), firstGo (fun g : Fld => g.id == id) l k = ((k + j : Nat) : Int) → (l.take (j + 1)).filter (keepP id) = l.take j
  | [], k, j, h => by simp [firstGo] at h; omega
  | f :: r, k, j, h => by
    unfold firstGo at h
    cases hp : (f.id == id)
    · rw [hp] at h
      simp only [Bool.false_eq_true, if_false] at h
      cases j with
      | zero =>
        rcases firstGo_find (fun g : Fld => g.id == id) r (k + 1) with ⟨h1, _⟩ | ⟨j', h1, _⟩
        · rw [h1] at h; omega
        · rw [h1] at h; omega
      | succ j =>
        have ih := firstGo_keep id r (k + 1) j (by rw [h]; congr 1; omega)
        have hk : keepP id f = true := by simp [keepP, hp]
        rw [List.take_succ_cons, List.filter_cons_of_pos hk, ih, List.take_succ_cons]
    · rw [hp] at h
      simp only [if_true] at h
      have hj : j = 0 := by omega
      subst hj
      simp [keepP, hp]
theorem flat_len (m : List Fld) : (m.flatMap Fld.enc).length = m.length * 4 := by
  induction m with
  | nil => rfl
  | cons x r ih => rw [List.flatMap_cons, List.length_append, List.length_cons, ih, Fld.len]; omega
theorem flat_take : ∀ (m : List Fld) (i : Nat) (tail : List Value), i ≤ m.length → (m.flatMap Fld.enc ++ tail).take (i * 4) = (m.take i).flatMap Fld.enc
  | [], i, tail, h => by
    have : i = 0 := by simpa using h
    subst this; simp
  | x :: r, 0, tail, _ => by simp
  | x :: r, i + 1, tail, h => by
    have ih := flat_take r i tail (by simpa using h)
    rw [List.take_succ_cons, List.flatMap_cons, List.flatMap_cons, ← ih, List.append_assoc, show (i + 1) * 4 = (Fld.enc x).length + i * 4 by rw [Fld.len]; omega, List.take_append]
    simp [Fld.len]
    exact List.take_of_length_le (by rw [Fld.len]; omega)
theorem Box.fld {w : World} {g : Nat} {m : List Fld} {tail : List Value} {T : TypeId} (h : Box w g (m.flatMap Fld.enc ++ tail) T) {k : Nat} (hk : k < m.length) : w.cell? ⟨g, k * 4, none⟩ = some (.int .i64 m[k].id) ∧ w.cell? ⟨g, k * 4 + 1, none⟩ = some (.string m[k].name) ∧ w.cell? ⟨g, k * 4 + 2, none⟩ = some (.int .i64 m[k].ty) ∧ w.cell? ⟨g, k * 4 + 3, none⟩ = some (.int .i64 m[k].par) := by
  have q : ∀ i u, (Fld.enc m[k])[i]? = some u → w.cell? ⟨g, k * 4 + i, none⟩ = some u := by
    intro i u hi
    have e := flatMap_get (enc := Fld.enc) (sz := 4) Fld.len m k m[k] i u (List.getElem?_eq_getElem hk) hi
    exact h.cell _ u (by rw [List.getElem?_append_left (List.getElem?_eq_some_iff.1 e).1]; exact e)
  exact ⟨q 0 _ rfl, q 1 _ rfl, q 2 _ rfl, q 3 _ rfl⟩
set_option maxRecDepth 100000 in
set_option maxHeartbeats 1600000 in
theorem sDelete (base q : Nat) (id : Int) (l : List Fld) (v : Value) (w : World) (HO : Own Fld.enc 4 w base 53 v l) (hq : Box w q [.int .i64 id] 3) (hl : l.length ≤ 1000) :
    Calls Try.prog 73 #[v, .func (.func 74) #[] #[.pointer (some ⟨q, 0, none⟩)]] w fun e w' => ∃ v', e = .returned v' ∧ Own Fld.enc 4 w' base 53 v' (l.filter (keepP id)) ∧ w.grownBy w' v.ownBlock ∧ v'.ownBlock = v.ownBlock := by
  obtain ⟨Av, cv, he, hcv, hr, hf⟩ := HO.rd Fld.len (by omega)
  subst he
  go_enter Try.func73, Try.ntmps73
  go_upto_region 2 with (go_at_call 70; refine (sRemoveF _ _ l ⟨q, 0, none⟩ id _ hr (hq.cell 0 _ rfl)).mono ?_; rintro e w1 ⟨rfl, hb⟩)
  rcases firstGo_find (fun g : Fld => g.id == id) l 0 with ⟨e1, e2⟩ | ⟨j0, e1, hj0, e2⟩
  · have e3 : firstR (fun g : Fld => g.id == id) l = -1 := e1
    have hfl : l.filter (keepP id) = l := by
      rw [List.filter_eq_self]; intro a ha
      have := List.find?_eq_none.1 e2 a ha
      simp [keepP]; simpa using this
    rw [e3]
    go_wp2
    exact end_tmp rfl rfl rfl ⟨_, rfl, by rw [hfl]; exact HO.kept hb, grown_below (grown_refl _ _) hb, rfl⟩
  · have e3 : firstR (fun g : Fld => g.id == id) l = ((j0 : Nat) : Int) := by unfold firstR; rw [e1]; simp
    rw [e3]
    rcases HO.2 with ⟨he, hn⟩ | ⟨g, cap, cur, he, hgb, hh, hnc, hcm, hcs, hpre⟩
    · exact absurd hn (by omega)
    cases he
    have hbx0 : Box w g (l.flatMap Fld.enc ++ cur.toList.drop (l.length * 4)) 53 := by
      unfold Box; rw [hh, ← hpre, List.take_append_drop]
    have htl : (cur.toList.drop (l.length * 4)).length + l.length * 4 = cv * 4 := by rw [List.length_drop, Array.length_toList, hcs]; omega
    generalize cur.toList.drop (l.length * 4) = tail at hbx0 htl
    have hqg : q ≠ g := by
      intro h; subst h
      unfold Box at hq hbx0; rw [hq] at hbx0; simp at hbx0
    have hkeep := firstGo_keep id l 0 j0 (by rw [e1])
    have hj1 : ((j0 : Int) == -1) = false := beq_eq_false_iff_ne.2 (by omega)
    go_wp2
    go_loopw [5, 6] (fun iv jv wr => ∃ (i j : Nat) (m : List Fld), iv = .int .i64 i ∧ jv = .int .i64 j ∧ i < j ∧ j ≤ l.length ∧ m.length = l.length ∧ Hid (m.drop j = l.drop j) ∧ Hid (m.take i = (l.take j).filter (keepP id)) ∧ Box wr g (m.flatMap Fld.enc ++ tail) 53 ∧ w.grownBy wr (some g)) (fun _ jv _ => l.length - (intOf jv).toNat)
    case atStart => exact ⟨j0, j0 + 1, l, rfl, by go_num, by omega, by omega, rfl, rfl, Lib.hid hkeep.symm, hbx0.keep hb, grown_below (grown_refl _ _) hb⟩
    case round =>
      obtain ⟨i, j, m, rfl, rfl, hij, hjl, hml, hmd, hmt, hbx, hG⟩ := hrel
      have hq1 := hq.grown hG (by simp; exact hqg)
      have hq1z := hq1.lt; have hq1c0 := hq1.cell 0 _ rfl
      have hgz := hbx.lt
      by_cases hlt : j < l.length
      · have hmj : m[j]'(by omega) = l[j] := by
          have := congrArg List.head? hmd.out
          rw [List.head?_drop, List.head?_drop, List.getElem?_eq_getElem (by omega), List.getElem?_eq_getElem hlt] at this
          exact Option.some.inj this
        obtain ⟨f0, f1, f2, f3⟩ := hbx.fld (k := j) (by omega)
        rw [hmj] at f0 f1 f2 f3
        have hi0 : (0 : Int) ≤ (j : Int) := by omega
        have hi1 : (j : Int) < (l.length : Int) := by omega
        have hi2 : (0 : Int) ≤ (i : Int) := by omega
        have hi3 : (i : Int) < (l.length : Int) := by omega
        go_wp2_with (go_at_call 74; refine (sRemoveC ⟨q, 0, none⟩ id l[j] _ (cell_keep (by repeat (first | exact below_refl _ | apply below_alloc | apply below_drew | apply below_drewN)) hq1c0)).mono ?_; rintro e w2 ⟨rfl, hb2⟩; have hbx2 := (hbx.keep (by repeat (first | exact below_refl _ | apply below_alloc | apply below_drew | apply below_drewN))).keep hb2; have hx7 := (box_new _ l[j].enc 53 rfl).keep hb2; have hG2 := grown_below (grown_below hG (by repeat (first | exact below_refl _ | apply below_alloc | apply below_drew | apply below_drewN))) hb2; obtain ⟨g0, g1, g2, g3⟩ := hbx2.fld (k := i) (by omega); have z0 := hbx2.frozen (i * 4); have z1 := hbx2.frozen (i * 4 + 1); have z2 := hbx2.frozen (i * 4 + 2); have z3 := hbx2.frozen (i * 4 + 3); have hgz2 := hbx2.lt; have hx7z := hx7.lt; have hx7c0 := hx7.cell 0 _ rfl; have hx7c1 := hx7.cell 1 _ rfl; have hx7c2 := hx7.cell 2 _ rfl; have hx7c3 := hx7.cell 3 _ rfl)
        all_goals
          have hmd1 : m.drop (j + 1) = l.drop (j + 1) := by
            have := congrArg (List.drop 1) hmd.out
            rwa [List.drop_drop, List.drop_drop] at this
          have hfs := filter_take_succ (keepP id) hlt
        · have hk : keepP id l[j] = true := by assumption
          have hms : (m.set i l[j]).take (i + 1) = (l.take (j + 1)).filter (keepP id) := by
            rw [hfs, hk, ← hmt.out, List.take_succ_eq_append_getElem (by simp; omega), List.take_set_of_le (Nat.le_refl i)]; simp
          go_roundw
          case rel => exact ⟨i + 1, j + 1, m.set i l[j], by go_num, by go_num, by omega, by omega, by simp [hml], Lib.hid (by rw [List.drop_set_of_lt (by omega)]; exact hmd1), Lib.hid hms, by rw [← flat_set m i (by omega) tail]; exact (((hbx2.set _ _).set _ _).set _ _).set _ _, grown_set (grown_set (grown_set (grown_set hG2 _ _) _ _) _ _) _ _⟩
          case measure => simp [intOf]; omega
        · have hk : keepP id l[j] = false := by assumption
          have hms : m.take i = (l.take (j + 1)).filter (keepP id) := by rw [hfs, hk, ← hmt.out]; simp
          go_roundw
          case rel => exact ⟨i, j + 1, m, rfl, by go_num, by omega, by omega, hml, Lib.hid hmd1, Lib.hid hms, hbx2, hG2⟩
          case measure => simp [intOf]; omega
      · have hi2 : (0 : Int) ≤ (i : Int) := by omega
        have hi3 : (i : Int) ≤ (l.length : Int) := by omega
        have hj2 : j = l.length := by omega
        obtain ⟨Z, hZ⟩ := run_clear_box (P := Try.prog) 29 53 0 Try.underlying29 zeroF (by decide) hbx (i * 4) (l.length - i) (cv - i) (by decide) (by
          rw [List.length_append, flat_len]; simp [Value.cells]; omega)
        obtain ⟨vs', hv1, hv2, hv3⟩ := Box.setCells Z (i * 4) wr _ hbx
        have hGz := grown_setCells Z (i * 4) wr hG
        go_wp2
        have hl' : l.filter (keepP id) = m.take i := by rw [hmt.out, hj2, List.take_length]
        have hlen : (m.take i).length = i := by rw [List.length_take]; omega
        refine end_tmp rfl rfl rfl ⟨_, rfl, ?_, hGz, rfl⟩
        rw [hl']
        refine ⟨by rw [flat_len], .inr ⟨g, cv, vs'.toArray, by rw [hlen]; rfl, hgb, hv1, by omega, hcm, ?_, ?_⟩⟩
        · rw [List.size_toArray, hv2, List.length_append, flat_len]; omega
        · rw [hlen, List.toList_toArray, hv3, flat_take m i tail (by omega)]
end Go.Proofs.Ythcphdgfdkgimaa
