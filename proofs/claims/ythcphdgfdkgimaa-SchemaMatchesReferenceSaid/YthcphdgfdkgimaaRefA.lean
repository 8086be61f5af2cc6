/- The references of fenlandref06, part A: each function answers as its plain function. -/
import Derived.Test.YthcphdgfdkgimaaProg
import Derived.Test.YthcphdgfdkgimaaBase
namespace Go.Proofs.Ythcphdgfdkgimaa
open Go.RowKit
set_option maxHeartbeats 400000 in
theorem rField (A : Option Addr) (c : Nat) (l : List Fld) (nx id : Int) (w : World) (hr : RdF w A l) :
    Calls Try.prog 20 #[.agg #[.slice A l.length c, .int .i64 nx], .int .i64 id] w fun e w' => e = .returned (.tuple #[fldV (getF l id), .bool (hasF l id)]) ∧ Below w.heap.size w w' := by
  have hl := hr.1
  go_enter Try.func20, Try.ntmps20
  go_wp2
  go_loop [6] (fun i => ∃ k : Nat, k ≤ l.length ∧ i = .int .i64 k ∧ Hid (∀ j (h : j < l.length), j < k → l[j].id ≠ id)) (fun i => l.length - (intOf i).toNat)
  case atStart => exact ⟨0, Nat.zero_le _, rfl, fun j _ hj => absurd hj (by omega)⟩
  case round =>
    obtain ⟨k, hk, rfl, hn⟩ := hrel
    by_cases hlt : k < l.length
    · obtain ⟨b, o, rfl, hb, c0, c1, c2, c3⟩ := hr.at_ k hlt
      go_wp2
      · have he : (l[k].id == id) = true := by assumption
        have hf := findF_at hlt hn.out (by simpa using he)
        exact bodyPost_ret (v := .tuple #[fldV l[k], .bool true]) (by simp [results, Try.results20, go_sem, fldV]) rfl ⟨by simp [getF, hasF, hf], below_alloc (below_alloc (below_refl _) _) _⟩
      · have he : (l[k].id == id) = false := by assumption
        go_round
        case rel => exact ⟨k + 1, by omega, by go_num, fun j h hj => by
          rcases Nat.lt_succ_iff_lt_or_eq.1 hj with hj | rfl
          · exact hn.out j h hj
          · simpa using he⟩
        case measure => simp [intOf]; omega
    · have hf := findF_none (l := l) (id := id) (fun j h => hn.out j h (by omega))
      go_wp2
      exact bodyPost_ret (v := .tuple #[fldV .z, .bool false]) (by simp [results, Try.results20, go_sem, fldV, Fld.z]) rfl ⟨by simp [getF, hasF, hf], below_alloc (below_alloc (below_refl _) _) _⟩
set_option maxHeartbeats 400000 in
theorem rMod (x n : Int) (w : World) : Calls Try.prog 31 #[.int .i64 x, .int .i64 n] w fun e w' => e = .returned (.int .i64 (modR x n)) ∧ w' = w := by
  go_enter Try.func31, Try.ntmps31
  go_wp2
  · exact end_int rfl rfl rfl (by unfold modR; rw [if_pos (by assumption)]) ⟨rfl, rfl⟩
  · exact end_int rfl rfl rfl (by unfold modR; rw [if_neg (by omega)]) ⟨rfl, rfl⟩
set_option maxHeartbeats 400000 in
theorem rSep (s : ByteArray) (w : World) (hs : s.size ≤ 9223372036854775807) : Calls Try.prog 33 #[.string s] w fun e w' => e = .returned (.bool (sepOk s)) ∧ w' = w := by
  go_enter Try.func33, Try.ntmps33
  go_wp2
  all_goals exact end_bool rfl rfl rfl (by rw [Bool.eq_iff_iff]; simp [sepOk]; omega) ⟨rfl, rfl⟩
set_option maxHeartbeats 400000 in
theorem rName (s : ByteArray) (w : World) (hs : s.size ≤ 9223372036854775807) : Calls Try.prog 55 #[.string s] w fun e w' => e = .returned (.bool (nameOk s)) ∧ w' = w := by
  go_enter Try.func55, Try.ntmps55
  go_wp2
  go_loop [3] (fun i => ∃ k : Nat, k ≤ s.size ∧ i = .int .i64 k ∧ Hid (∀ j (h : j < s.size), j < k → okc s[j] = true)) (fun i => s.size - (intOf i).toNat)
  case atStart => exact ⟨0, Nat.zero_le _, rfl, fun j _ hj => absurd hj (by omega)⟩
  case round =>
    obtain ⟨k, hk, rfl, hn⟩ := hrel
    by_cases hlt : k < s.size
    · go_wp2
      all_goals (try simp only [Bool.not_eq_true', decide_eq_false_iff_not, Bool.not_eq_false', decide_eq_true_eq, beq_iff_eq, beq_eq_false_iff_ne] at *)
      all_goals first
        | exact end_bool rfl rfl rfl (by simp [nameOk, all_not hlt (okc_no (by omega))]) ⟨rfl, rfl⟩
        | (go_round
           case rel => exact ⟨k + 1, by omega, by go_num, upto_step hn.out (fun _ => okc_yes (by omega))⟩
           case measure => simp [intOf]; omega)
    · have ha := all_at (s := s) (p := okc) (fun j h => hn.out j h (by omega))
      go_wp2
      all_goals exact end_bool rfl rfl rfl (by rw [Bool.eq_iff_iff]; simp [nameOk, ha]; omega) ⟨rfl, rfl⟩
set_option maxHeartbeats 400000 in
theorem rGroup (A : Option Addr) (c : Nat) (l : List Fld) (nx id : Int) (w : World) (hr : RdF w A l) :
    Calls Try.prog 34 #[.agg #[.slice A l.length c, .int .i64 nx], .int .i64 id] w fun e w' => e = .returned (.bool (grp l id)) ∧ Below w.heap.size w w' := by
  go_enter Try.func34, Try.ntmps34
  go_wp2_with (go_at_call 20; refine (rField _ _ _ _ _ _ (hr.keep (below_alloc (below_refl _) _))).mono ?_; rintro e w1 ⟨rfl, hb⟩; obtain ⟨hc, hf⟩ := bcell hb; have hz := hb.size; simp at hz)
  all_goals exact end_bool rfl rfl rfl (by simp_all [grp]) ⟨rfl, below_alloc (below_of (below_alloc (below_refl _) _) hb) _⟩
set_option maxHeartbeats 400000 in
theorem rDepth (A : Option Addr) (c : Nat) (l : List Fld) (nx id : Int) (w : World) (hr : RdF w A l) :
    Calls Try.prog 64 #[.agg #[.slice A l.length c, .int .i64 nx], .int .i64 id] w fun e w' => e = .returned (.int .i64 (depthR l 9 id)) ∧ Below w.heap.size w w' := by
  go_enter Try.func64, Try.ntmps64
  go_wp2
  go_loopw [1, 5] (fun i n wr => ∃ (x : Int) (m : Nat), i = .int .i64 x ∧ n = .int .i64 m ∧ m ≤ 9 ∧ Hid (depthR l (9 - m) x = depthR l 9 id) ∧ Below w.heap.size w wr ∧ Box wr w.heap.size [.slice A l.length c, .int .i64 nx] 31) (fun _ n _ => 9 - (intOf n).toNat)
  case atStart => exact ⟨id, 0, rfl, rfl, by omega, rfl, below_alloc (below_refl _) _, box_new _ _ _ rfl⟩
  case round =>
    obtain ⟨x, m, rfl, rfl, hm, hd, HB, h0⟩ := hrel
    have c0 := h0.cell 0 _ rfl
    have c1 := h0.cell 1 _ rfl
    have hz := h0.lt
    by_cases hx : x = 0
    · subst hx
      go_wp2
      exact end_int rfl rfl rfl (by rw [← hd.out, depthR_zero]; omega) ⟨rfl, HB⟩
    · by_cases h9 : m = 9
      · subst h9
        go_wp2
        exact end_int rfl rfl rfl (by rw [← hd.out]; rfl) ⟨rfl, HB⟩
      · have hx' : (x != 0) = true := by simpa using hx
        have h8 : (m : Int) ≤ 8 := by omega
        have hs := depthR_step (l := l) (k := 9 - m) (x := x) (by omega) hx
        have HS := Lib.hid hs; clear hs
        go_wp2_with (go_at_call 20; refine (rField _ _ _ _ _ _ (hr.keep HB)).mono ?_; rintro e w1 ⟨rfl, hb⟩; obtain ⟨hc, hf⟩ := bcell hb; have hz := hb.size)
        · have hh : hasF l x = false := by simpa using ‹(!hasF l x) = true›
          exact end_int rfl rfl rfl (by rw [← hd.out, HS.out, hh]; rfl) ⟨rfl, below_alloc (below_of HB hb) _⟩
        · have hh : hasF l x = true := by simpa using ‹(!hasF l x) = false›
          go_roundw
          case rel => exact ⟨_, m + 1, rfl, by go_num, by omega, by rw [← hd.out, HS.out, hh, show 9 - (m + 1) = 9 - m - 1 by omega]; rfl, below_alloc (below_of HB hb) _, (h0.keep hb).alloc _⟩
          case measure => simp [intOf]; omega
set_option maxHeartbeats 400000 in
theorem rInside (A : Option Addr) (c : Nat) (l : List Fld) (nx id g : Int) (w : World) (hr : RdF w A l) :
    Calls Try.prog 76 #[.agg #[.slice A l.length c, .int .i64 nx], .int .i64 id, .int .i64 g] w fun e w' => e = .returned (.bool (insideR l g 9 id)) ∧ Below w.heap.size w w' := by
  go_enter Try.func76, Try.ntmps76
  go_wp2
  go_loopw [1, 7] (fun i n wr => ∃ (x : Int) (m : Nat), i = .int .i64 x ∧ n = .int .i64 m ∧ m ≤ 9 ∧ Hid (insideR l g (9 - m) x = insideR l g 9 id) ∧ Below w.heap.size w wr ∧ Box wr w.heap.size [.slice A l.length c, .int .i64 nx] 31) (fun _ n _ => 9 - (intOf n).toNat)
  case atStart => exact ⟨id, 0, rfl, rfl, by omega, rfl, below_alloc (below_refl _) _, box_new _ _ _ rfl⟩
  case round =>
    obtain ⟨x, m, rfl, rfl, hm, hd, HB, h0⟩ := hrel
    have c0 := h0.cell 0 _ rfl
    have c1 := h0.cell 1 _ rfl
    have hz := h0.lt
    by_cases hx : x = 0
    · subst hx
      go_wp2
      exact end_bool rfl rfl rfl (by rw [← hd.out, insideR_zero]) ⟨rfl, HB⟩
    · by_cases h9 : m = 9
      · subst h9
        go_wp2
        exact end_bool rfl rfl rfl (by rw [← hd.out]; rfl) ⟨rfl, HB⟩
      · have hx' : (x != 0) = true := by simpa using hx
        have h8 : (m : Int) ≤ 8 := by omega
        have HS := Lib.hid (insideR_step (l := l) (g := g) (k := 9 - m) (x := x) (by omega) hx)
        go_wp2_with (go_at_call 20; refine (rField _ _ _ _ _ _ (hr.keep HB)).mono ?_; rintro e w1 ⟨rfl, hb⟩; obtain ⟨hc, hf⟩ := bcell hb; have hz := hb.size)
        · have hh : x = g := by simpa using ‹(x == g) = true›
          exact end_bool rfl rfl rfl (by rw [← hd.out, HS.out, if_pos hh]) ⟨rfl, HB⟩
        · have hh : x ≠ g := by simpa using ‹(x == g) = false›
          go_roundw
          case rel => exact ⟨_, m + 1, rfl, by go_num, by omega, by rw [← hd.out, HS.out, if_neg hh, show 9 - (m + 1) = 9 - m - 1 by omega]; rfl, below_alloc (below_of HB hb) _, (h0.keep hb).alloc _⟩
          case measure => simp [intOf]; omega
set_option maxHeartbeats 400000 in
theorem rTaken (A : Option Addr) (c : Nat) (l : List Fld) (nx fid fty par x y : Int) (nm : ByteArray) (w : World) (hr : RdF w A l) (hs : nm.size ≤ 9223372036854775807) :
    Calls Try.prog 65 #[.agg #[.slice A l.length c, .int .i64 nx], .agg #[.int .i64 fid, .string nm, .int .i64 fty, .int .i64 par], .agg #[.int .i64 x, .int .i64 y]] w fun e w' => e = .returned (.bool (takenR l nm par x y)) ∧ Below w.heap.size w w' := by
  have hl := hr.1
  go_enter Try.func65, Try.ntmps65
  go_wp2
  go_loopw [7] (fun i wr => ∃ (k : Nat), i = .int .i64 k ∧ k ≤ l.length ∧ Hid (∀ j (h : j < l.length), j < k → takenP nm par x y l[j] = false) ∧ Below w.heap.size w wr ∧ Box wr w.heap.size [.slice A l.length c, .int .i64 nx] 31 ∧ Box wr (w.heap.size + 1) [.int .i64 fid, .string nm, .int .i64 fty, .int .i64 par] 53 ∧ Box wr (w.heap.size + 2) [.int .i64 x, .int .i64 y] 93) (fun i _ => l.length - (intOf i).toNat)
  case atStart => exact ⟨0, rfl, by omega, fun j _ hj => absurd hj (by omega), below_alloc (below_alloc (below_alloc (below_refl _) _) _) _, ((box_new _ _ _ rfl).alloc _).alloc _, (box_new _ _ _ (by simp)).alloc _, box_new _ _ _ (by simp)⟩
  case round =>
    obtain ⟨k, rfl, hk, hn, HB, h0, h1, h2⟩ := hrel
    have c0 := h0.cell 0 _ rfl
    have d1 := h1.cell 1 _ rfl
    have d3 := h1.cell 3 _ rfl
    have e0 := h2.cell 0 _ rfl
    have e1 := h2.cell 1 _ rfl
    have hz0 := h0.lt
    have hz1 := h1.lt
    have hz := h2.lt
    by_cases hlt : k < l.length
    · obtain ⟨b, o, rfl, hb, f0, f1, f2, f3⟩ := RdF.at_ (hr.keep HB) k hlt
      go_wp2
      all_goals first
        | exact end_bool rfl rfl rfl (by rw [takenR, any_yes hlt (by simp_all [takenP])]; rfl) ⟨rfl, below_alloc HB _⟩
        | (go_roundw
           case rel => exact ⟨k + 1, by go_num, by omega, upto_step hn.out (fun _ => by simp_all [takenP]), below_alloc HB _, h0.alloc _, h1.alloc _, h2.alloc _⟩
           case measure => simp [intOf]; omega)
    · go_wp2_with (go_at_call 55; refine (rName _ _ hs).mono ?_; rintro e w1 ⟨rfl, rfl⟩)
      have ha := any_not (l := l) (p := takenP nm par x y) (fun j h => hn.out j h (by omega))
      exact end_bool rfl rfl rfl (by simp [takenR, ha]) ⟨rfl, HB⟩
end Go.Proofs.Ythcphdgfdkgimaa
