/- Plain: what changes keep of a schema: numbers, names, groups, depth, sizes. -/
import Derived.Test.YthcphdgfdkgimaaRefT
set_option linter.unusedSimpArgs false
set_option linter.unusedVariables false
namespace Go.Proofs.Ythcphdgfdkgimaa
inductive Dp (l : List Fld) : Nat → Int → Prop
  | zero : Dp l 0 0
  | up {n : Nat} {id : Int} {f : Fld} (h : findF l id = some f) (h0 : id ≠ 0) (r : Dp l n f.par) : Dp l (n + 1) id
theorem find_mem {l : List Fld} {id : Int} {f : Fld} (h : findF l id = some f) : f ∈ l ∧ f.id = id :=
  ⟨List.mem_of_find?_eq_some h, by have := List.find?_some h; simpa using this⟩
theorem find_of {l : List Fld} (hn : (l.map (·.id)).Nodup) {f : Fld} (h : f ∈ l) : findF l f.id = some f := by
  induction l with
  | nil => simp at h
  | cons g r ih =>
    simp only [List.map_cons, List.nodup_cons] at hn
    unfold findF
    rw [List.find?_cons]
    rcases List.mem_cons.1 h with rfl | h
    · simp
    · have hne : (g.id == f.id) = false := by simpa using fun e => hn.1 (by rw [e]; exact List.mem_map.2 ⟨f, h, rfl⟩)
      rw [hne]; exact ih hn.2 h
theorem has_find {l : List Fld} {id : Int} : hasF l id = true ↔ ∃ f, findF l id = some f := by
  unfold hasF; exact Option.isSome_iff_exists
theorem get_find {l : List Fld} {id : Int} {f : Fld} (h : findF l id = some f) : getF l id = f := by unfold getF; rw [h]; rfl
theorem depth_dp (l : List Fld) : ∀ (k : Nat) (id : Int), k ≤ 9 → depthR l k id < 9 → ∃ n, n < k ∧ Dp l n id ∧ depthR l k id = 9 - (k : Int) + n
  | 0, id, _, h => by simp [depthR] at h
  | k + 1, id, hk, h => by
    unfold depthR at h
    by_cases h0 : id = 0
    · subst h0; exact ⟨0, by omega, .zero, by simp [depthR]⟩
    · rw [if_neg h0] at h
      by_cases hh : hasF l id = true
      · rw [if_pos hh] at h
        obtain ⟨f, hf⟩ := has_find.1 hh
        obtain ⟨n, h1, h2, h3⟩ := depth_dp l k (getF l id).par (by omega) h
        refine ⟨n + 1, by omega, .up hf h0 (by rw [← get_find hf]; exact h2), ?_⟩
        unfold depthR; rw [if_neg h0, if_pos hh, h3]; push_cast; omega
      · rw [if_neg hh] at h; omega
theorem dp_depth {l : List Fld} {n : Nat} {id : Int} (h : Dp l n id) : ∀ k : Nat, n < k → k ≤ 9 → depthR l k id = 9 - (k : Int) + n := by
  induction h with
  | zero => intro k hk _; rw [depthR_zero]; simp
  | @up n id f hf h0 _ ih =>
    intro k hk hk9
    obtain ⟨k, rfl⟩ : ∃ j, k = j + 1 := ⟨k - 1, by omega⟩
    unfold depthR
    rw [if_neg h0, if_pos (has_find.2 ⟨f, hf⟩), get_find hf, ih k (by omega) (by omega)]
    push_cast; omega
structure Tr (l : List Fld) : Prop where
  names : ∀ f ∈ l, nameOk f.name = true
  types : ∀ f ∈ l, 1 ≤ f.ty ∧ f.ty ≤ 6
  groups : ∀ f ∈ l, f.par = 0 ∨ ∃ g, findF l f.par = some g ∧ g.ty = 6
  deep : ∀ f ∈ l, ∃ n, n ≤ 8 ∧ Dp l n f.id
structure Inv (l : List Fld) (nx : Int) : Prop where
  nums : Nums l nx
  pos : 1 ≤ nx
  le : nx ≤ 1073741824
  len : l.length ≤ 64
  tr : Tr l
theorem grp_find {l : List Fld} {p : Int} (h : grp l p = true) : p = 0 ∨ ∃ g, findF l p = some g ∧ g.ty = 6 := by
  unfold grp at h
  simp only [Bool.or_eq_true, beq_iff_eq, Bool.and_eq_true] at h
  rcases h with h | ⟨h1, h2⟩
  · exact .inl h
  · obtain ⟨g, hg⟩ := has_find.1 h1
    exact .inr ⟨g, hg, by rw [get_find hg] at h2; exact h2⟩
theorem dp_same {l l' : List Fld} (hs : ∀ id f, findF l id = some f → ∃ f', findF l' id = some f' ∧ f'.par = f.par) {n : Nat} {id : Int} (h : Dp l n id) : Dp l' n id := by
  induction h with
  | zero => exact .zero
  | up hf h0 _ ih => obtain ⟨f', h1, h2⟩ := hs _ _ hf; exact .up h1 h0 (by rw [h2]; exact ih)
theorem find_plus {l : List Fld} {nx : Int} (hN : Nums l nx) (f : Fld) : (∀ id g, findF l id = some g → findF (plusR l nx f) id = some g) ∧ findF (plusR l nx f) nx = some ⟨nx, f.name, f.ty, f.par⟩ := by
  unfold plusR findF
  refine ⟨fun id g h => by rw [List.find?_append, h]; rfl, ?_⟩
  rw [List.find?_append]
  have : l.find? (fun g => g.id == nx) = none := by
    rw [List.find?_eq_none]; intro g hg; have := (hN.2 g hg).2; simp; omega
  rw [this]; simp
theorem tr_plus {l : List Fld} {nx : Int} (hN : Nums l nx) (h1 : 1 ≤ nx) (h : Tr l) {f : Fld} (hn : nameOk f.name = true) (ht : 1 ≤ f.ty ∧ f.ty ≤ 6) (hg : f.par = 0 ∨ ∃ g, findF l f.par = some g ∧ g.ty = 6) (hd : ∃ m, m ≤ 7 ∧ Dp l m f.par) : Tr (plusR l nx f) := by
  obtain ⟨k1, k2⟩ := find_plus hN f
  have hm : ∀ g ∈ plusR l nx f, g ∈ l ∨ g = ⟨nx, f.name, f.ty, f.par⟩ := fun g hg => by unfold plusR at hg; simpa using hg
  refine ⟨fun g hg' => ?_, fun g hg' => ?_, fun g hg' => ?_, fun g hg' => ?_⟩
  · rcases hm g hg' with h' | rfl
    · exact h.names g h'
    · exact hn
  · rcases hm g hg' with h' | rfl
    · exact h.types g h'
    · exact ht
  · rcases hm g hg' with h' | rfl
    · exact (h.groups g h').imp id (fun ⟨q, a, b⟩ => ⟨q, k1 _ _ a, b⟩)
    · exact hg.imp id (fun ⟨q, a, b⟩ => ⟨q, k1 _ _ a, b⟩)
  · rcases hm g hg' with h' | rfl
    · obtain ⟨n, a, b⟩ := h.deep g h'
      exact ⟨n, a, dp_same (fun id f h => ⟨f, k1 _ _ h, rfl⟩) b⟩
    · obtain ⟨m, a, b⟩ := hd
      exact ⟨m + 1, by omega, .up k2 (by show nx ≠ 0; omega) (dp_same (fun id f h => ⟨f, k1 _ _ h, rfl⟩) b)⟩
theorem find_without {l : List Fld} {x y id : Int} (hx : id ≠ x) (hy : id ≠ y) : findF (withoutR l x y) id = findF l id := by
  unfold findF withoutR
  rw [List.find?_filter]
  congr 1; funext g
  by_cases h : g.id = id
  · subst h; simp [withoutP, hx, hy]
  · have : (g.id == id) = false := by simpa using h
    simp [this]
theorem dp_without {l : List Fld} {x y : Int} (hp : ∀ f ∈ l, f.par ≠ x ∧ f.par ≠ y) {n : Nat} {id : Int} (h : Dp l n id) : id ≠ x → id ≠ y → Dp (withoutR l x y) n id := by
  induction h with
  | zero => intro _ _; exact .zero
  | up hf h0 _ ih =>
    intro h1 h2
    obtain ⟨a, b⟩ := hp _ (find_mem hf).1
    exact .up (by rw [find_without h1 h2]; exact hf) h0 (ih a b)
theorem tr_without {l : List Fld} {x y : Int} (h : Tr l) (hp : ∀ f ∈ l, f.par ≠ x ∧ f.par ≠ y) : Tr (withoutR l x y) := by
  have hm : ∀ g ∈ withoutR l x y, g ∈ l ∧ g.id ≠ x ∧ g.id ≠ y := fun g hg => by
    obtain ⟨a, b⟩ := List.mem_filter.1 hg
    simp [withoutP] at b; exact ⟨a, b⟩
  refine ⟨fun g hg' => h.names g (hm g hg').1, fun g hg' => h.types g (hm g hg').1, fun g hg' => ?_, fun g hg' => ?_⟩
  · obtain ⟨a, b⟩ := hp g (hm g hg').1
    exact (h.groups g (hm g hg').1).imp id (fun ⟨q, h1, h2⟩ => ⟨q, by rw [find_without a b]; exact h1, h2⟩)
  · obtain ⟨m1, m2, m3⟩ := hm g hg'
    obtain ⟨n, a, b⟩ := h.deep g m1
    exact ⟨n, a, dp_without hp b m2 m3⟩
theorem find_with {l : List Fld} {g : Fld} {id : Int} : findF (withR l g) id = (findF l id).map (fun f => if f.id == g.id then g else f) := by
  unfold findF withR
  rw [List.find?_map]
  congr 1
  · congr 1; funext f
    simp only [Function.comp_apply]
    split
    · rename_i h; rw [(beq_iff_eq.1 h)]
    · rfl
theorem tr_with {l : List Fld} (h : Tr l) {g f : Fld} (hf : findF l g.id = some f) (hp : g.par = f.par) (ht : f.ty = 6 → g.ty = 6) (hn : nameOk g.name = true) (hty : 1 ≤ g.ty ∧ g.ty ≤ 6) : Tr (withR l g) := by
  have hs : ∀ id q, findF l id = some q → ∃ q', findF (withR l g) id = some q' ∧ q'.par = q.par ∧ (q.ty = 6 → q'.ty = 6) := by
    intro id q hq
    rw [find_with, hq]
    by_cases hi : (q.id == g.id) = true
    · have e1 : q.id = g.id := by simpa using hi
      have e2 : id = g.id := by rw [← e1]; exact (find_mem hq).2.symm
      rw [e2, hf] at hq
      cases hq
      exact ⟨g, by show some (if f.id == g.id then g else f) = some g; rw [if_pos hi], hp, ht⟩
    · exact ⟨q, by show some (if q.id == g.id then g else q) = some q; rw [if_neg hi], rfl, fun h => h⟩
  have hm : ∀ q ∈ withR l g, ∃ q0 ∈ l, q.id = q0.id ∧ (q = q0 ∨ q = g ∧ q0 = f ∨ q = g) ∧ (q = q0 ∨ q = g) := fun q hq => by
    unfold withR at hq
    obtain ⟨q0, h0, rfl⟩ := List.mem_map.1 hq
    by_cases hi : (q0.id == g.id) = true
    · rw [if_pos hi]; exact ⟨q0, h0, (beq_iff_eq.1 hi).symm, .inr (.inr rfl), .inr rfl⟩
    · rw [if_neg hi]; exact ⟨q0, h0, rfl, .inl rfl, .inl rfl⟩
  refine ⟨fun q hq => ?_, fun q hq => ?_, fun q hq => ?_, fun q hq => ?_⟩
  · obtain ⟨q0, h0, _, _, rfl | rfl⟩ := hm q hq
    · exact h.names _ h0
    · exact hn
  · obtain ⟨q0, h0, _, _, rfl | rfl⟩ := hm q hq
    · exact h.types _ h0
    · exact hty
  · have key : ∀ p, (p = 0 ∨ ∃ r, findF l p = some r ∧ r.ty = 6) → (p = 0 ∨ ∃ r, findF (withR l g) p = some r ∧ r.ty = 6) := fun p hp => hp.imp id (fun ⟨r, a, b⟩ => by
      obtain ⟨r', c, _, d⟩ := hs _ _ a
      exact ⟨r', c, d b⟩)
    obtain ⟨q0, h0, _, _, rfl | rfl⟩ := hm q hq
    · exact key _ (h.groups _ h0)
    · rw [hp]; exact key _ (h.groups _ (find_mem hf).1)
  · obtain ⟨q0, h0, e, _, _⟩ := hm q hq
    obtain ⟨n, a, b⟩ := h.deep q0 h0
    exact ⟨n, a, by rw [e]; exact dp_same (fun id f h => by obtain ⟨f', x, y, _⟩ := hs _ _ h; exact ⟨f', x, y⟩) b⟩
theorem taken_name {l : List Fld} {nm : ByteArray} {p x y : Int} (h : takenR l nm p x y = false) : nameOk nm = true := by
  unfold takenR at h; simp only [Bool.or_eq_false_iff, Bool.not_eq_false'] at h; exact h.2
theorem inv_nil : Inv [] 1 := ⟨nums_nil _, by omega, by omega, by simp, ⟨fun f h => by simp at h, fun f h => by simp at h, fun f h => by simp at h, fun f h => by simp at h⟩⟩
theorem dp_par {l : List Fld} (h : Tr l) {f : Fld} (hN : (l.map (·.id)).Nodup) (hf : f ∈ l) (h0 : f.id ≠ 0) : ∃ m, m ≤ 7 ∧ Dp l m f.par := by
  obtain ⟨n, a, b⟩ := h.deep f hf
  have hff := find_of hN hf
  generalize f.id = x at *
  cases b with
  | zero => exact absurd rfl h0
  | @up n id g hg _ r =>
    rw [hff] at hg; cases hg
    exact ⟨n, by omega, r⟩
/-- A field that is no group is no parent. -/
theorem not_par {l : List Fld} {nx : Int} (hN : Nums l nx) (h : Tr l) {x : Int} {f : Fld} (hf : findF l x = some f) (ht : f.ty ≠ 6) : ∀ g ∈ l, g.par ≠ x := by
  intro g hg e
  rcases h.groups g hg with h0 | ⟨q, a, b⟩
  · have := (hN.2 f (find_mem hf).1).1
    have := (find_mem hf).2
    omega
  · rw [e, hf] at a; cases a; exact ht b
theorem inv_apply {l : List Fld} {nx : Int} {c : Chg} (h : Inv l nx) (h0 : (applyR l nx c).1 = 0) : Inv (applyR l nx c).2.1 (applyR l nx c).2.2 := by
  have hN := h.nums
  have hp := h.pos
  have hle := h.le
  have hln := h.len
  have ht := h.tr
  have hnn := applyR_nums hN hp h0
  have a1 : ∀ r, r = addR l nx c → r.1 = 0 → 1 ≤ r.2.2 ∧ r.2.2 ≤ 1073741824 ∧ r.2.1.length ≤ 64 ∧ Tr r.2.1 := by
    intro r hr h0; unfold addR at hr
    repeat' split at hr
    all_goals subst hr
    all_goals first | (exact absurd h0 (by decide)) | skip
    rename_i e1 e2 e3 e4 e5 e6 e7
    refine ⟨by show 1 ≤ nx + 1; omega, by show nx + 1 ≤ _; omega, by simp only [plusR_len]; omega, ?_⟩
    refine tr_plus hN hp ht (taken_name (by simpa using e5)) ⟨by show 1 ≤ c.ty; omega, by show c.ty ≤ 6; omega⟩ (grp_find (by simpa using e3)) ?_
    obtain ⟨n, q1, q2, q3⟩ := depth_dp l 9 c.par (by omega) (by omega)
    exact ⟨n, by omega, q2⟩
  have a2 : ∀ f p r, findF l f.id = some f → r = moveR l nx f p → r.1 = 0 → 1 ≤ r.2.2 ∧ r.2.2 ≤ 1073741824 ∧ r.2.1.length ≤ 64 ∧ Tr r.2.1 := by
    intro f p r hf hr h0; unfold moveR at hr
    repeat' split at hr
    all_goals subst hr
    all_goals first | (exact absurd h0 (by decide)) | skip
    rename_i e1 e2 e3 e4
    refine ⟨hp, hle, by simp only [withR_len]; exact hln, ?_⟩
    have hs : ∀ id q, findF l id = some q → ∃ q', findF (withR l ⟨f.id, f.name, f.ty, p⟩) id = some q' ∧ (q.ty = 6 → q'.ty = 6) := by
      intro id q hq
      rw [find_with, hq]
      by_cases hi : (q.id == f.id) = true
      · have e1 : q.id = f.id := by simpa using hi
        have e2 : id = f.id := by rw [← e1]; exact (find_mem hq).2.symm
        rw [e2, hf] at hq
        cases hq
        exact ⟨⟨f.id, f.name, f.ty, p⟩, by show some (if f.id == f.id then _ else f) = _; rw [if_pos hi], fun h => h⟩
      · exact ⟨q, by show some (if q.id == f.id then _ else q) = some q; rw [if_neg hi], fun h => h⟩
    have key : ∀ p', (p' = 0 ∨ ∃ r, findF l p' = some r ∧ r.ty = 6) → (p' = 0 ∨ ∃ r, findF (withR l ⟨f.id, f.name, f.ty, p⟩) p' = some r ∧ r.ty = 6) := fun p' hp => hp.imp id (fun ⟨r, a, b⟩ => by
      obtain ⟨r', c, d⟩ := hs _ _ a
      exact ⟨r', c, d b⟩)
    have hm : ∀ q ∈ withR l ⟨f.id, f.name, f.ty, p⟩, q ∈ l ∨ q = ⟨f.id, f.name, f.ty, p⟩ := fun q hq => by
      unfold withR at hq
      obtain ⟨q0, h0, rfl⟩ := List.mem_map.1 hq
      split
      · exact .inr rfl
      · exact .inl h0
    refine ⟨fun q hq => ?_, fun q hq => ?_, fun q hq => ?_, fun q hq => ?_⟩
    · rcases hm q hq with h' | rfl
      · exact ht.names _ h'
      · exact ht.names f (find_mem hf).1
    · rcases hm q hq with h' | rfl
      · exact ht.types _ h'
      · exact ht.types f (find_mem hf).1
    · rcases hm q hq with h' | rfl
      · exact key _ (ht.groups _ h')
      · exact key _ (grp_find (by simpa using e1))
    · have hd : ¬ 8 < depthR (withR l ⟨f.id, f.name, f.ty, p⟩) 9 q.id := by
        intro hlt
        apply e3
        unfold deepAny
        exact List.any_eq_true.2 ⟨q, hq, by simpa using hlt⟩
      obtain ⟨n, q1, q2, q3⟩ := depth_dp (withR l ⟨f.id, f.name, f.ty, p⟩) 9 q.id (by omega) (by omega)
      exact ⟨n, by omega, q2⟩
  have a3 : ∀ r, r = oneR l nx c → r.1 = 0 → 1 ≤ r.2.2 ∧ r.2.2 ≤ 1073741824 ∧ r.2.1.length ≤ 64 ∧ Tr r.2.1 := by
    intro r hr h0; unfold oneR at hr
    by_cases hh : hasF l c.id = false
    · rw [if_pos hh] at hr; subst hr; exact absurd h0 (by decide)
    rw [if_neg hh] at hr
    obtain ⟨f, hf⟩ := has_find.1 (by simpa using hh : hasF l c.id = true)
    have hid := (find_mem hf).2
    rw [get_find hf] at hr
    have hf' : findF l f.id = some f := by rw [hid]; exact hf
    repeat' split at hr
    all_goals first | exact a2 _ _ _ hf' hr h0 | skip
    all_goals subst hr
    all_goals first | (exact absurd h0 (by decide)) | skip
    · rename_i e1 e2
      refine ⟨hp, hle, Nat.le_trans (withoutR_len l _ _) hln, tr_without ht (fun g hg => ?_)⟩
      have : g.par ≠ f.id := fun e => e2 (List.any_eq_true.2 ⟨g, hg, by simpa using e⟩)
      exact ⟨this, this⟩
    · rename_i e1 e2 e3
      exact ⟨hp, hle, by simp only [withR_len]; exact hln, tr_with ht (g := ⟨f.id, c.name, f.ty, f.par⟩) hf' rfl (fun h => h) (taken_name (by simpa using e3)) (ht.types f (find_mem hf).1)⟩
    · rename_i e1 e2 e3 e4
      have e5 : f.ty = 2 := by simpa using e4
      exact ⟨hp, hle, by simp only [withR_len]; exact hln, tr_with ht (g := ⟨f.id, f.name, 3, f.par⟩) hf' rfl (fun h => by omega) (ht.names f (find_mem hf).1) ⟨by show (1 : Int) ≤ 3; omega, by show (3 : Int) ≤ 6; omega⟩⟩
  have a4 : ∀ r, r = splitR l nx c → r.1 = 0 → 1 ≤ r.2.2 ∧ r.2.2 ≤ 1073741824 ∧ r.2.1.length ≤ 64 ∧ Tr r.2.1 := by
    intro r hr h0; unfold splitR at hr
    by_cases hh : hasF l c.id = false
    · rw [if_pos hh] at hr; subst hr; exact absurd h0 (by decide)
    rw [if_neg hh] at hr
    obtain ⟨f, hf⟩ := has_find.1 (by simpa using hh : hasF l c.id = true)
    have hid := (find_mem hf).2
    rw [get_find hf] at hr
    have hf' : findF l f.id = some f := by rw [hid]; exact hf
    repeat' split at hr
    all_goals subst hr
    all_goals first | (exact absurd h0 (by decide)) | skip
    rename_i e1 e2 e3 e4 e5 e6 e7
    have e8 : f.ty = 4 := by simpa using e1
    have hnp := not_par hN ht hf' (by omega)
    have hT := tr_without (x := f.id) (y := f.id) ht (fun g hg => ⟨hnp g hg, hnp g hg⟩)
    have hfi := (hN.2 f (find_mem hf).1).1
    obtain ⟨m, m1, m2⟩ := dp_par ht hN.1 (find_mem hf).1 (by omega)
    have hfp := hnp f (find_mem hf).1
    have hD : Dp (withoutR l f.id f.id) m f.par := dp_without (fun g hg => ⟨hnp g hg, hnp g hg⟩) m2 hfp hfp
    have hG : f.par = 0 ∨ ∃ g, findF (withoutR l f.id f.id) f.par = some g ∧ g.ty = 6 := (ht.groups f (find_mem hf).1).imp id (fun ⟨q, a, b⟩ => ⟨q, by rw [find_without hfp hfp]; exact a, b⟩)
    have hT2 := tr_plus (nums_without hN f.id f.id) hp hT (f := ⟨0, c.name, 4, f.par⟩) (taken_name (by simpa using e3)) (by simp) hG ⟨m, m1, hD⟩
    have hk := (find_plus (nums_without hN f.id f.id) ⟨0, c.name, 4, f.par⟩).1
    have hlen : (withoutR l f.id f.id).length < l.length := by
      unfold withoutR
      refine Nat.lt_of_le_of_ne (List.length_filter_le _ _) (fun e => ?_)
      have := List.length_filter_eq_length_iff.1 e f (find_mem hf).1
      simp [withoutP] at this
    refine ⟨by show 1 ≤ nx + 1 + 1; omega, by show nx + 1 + 1 ≤ _; omega, by simp only [plusR_len]; omega, ?_⟩
    exact tr_plus (nums_plus (nums_without hN f.id f.id) hp _) (by omega) hT2 (f := ⟨0, c.other, 4, f.par⟩) (taken_name (by simpa using e4)) (by simp) (hG.imp id (fun ⟨q, a, b⟩ => ⟨q, hk _ _ a, b⟩)) ⟨m, m1, dp_same (fun id q h => ⟨q, hk _ _ h, rfl⟩) hD⟩
  have a5 : ∀ r, r = joinR l nx c → r.1 = 0 → 1 ≤ r.2.2 ∧ r.2.2 ≤ 1073741824 ∧ r.2.1.length ≤ 64 ∧ Tr r.2.1 := by
    intro r hr h0; unfold joinR at hr
    by_cases hh : hasF l c.id = false
    · rw [if_pos hh] at hr; subst hr; exact absurd h0 (by decide)
    rw [if_neg hh] at hr
    by_cases hh2 : hasF l c.wit = false
    · rw [if_pos hh2] at hr; subst hr; exact absurd h0 (by decide)
    rw [if_neg hh2] at hr
    obtain ⟨f, hf⟩ := has_find.1 (by simpa using hh : hasF l c.id = true)
    obtain ⟨g, hg⟩ := has_find.1 (by simpa using hh2 : hasF l c.wit = true)
    rw [get_find hf, get_find hg] at hr
    have hf' : findF l f.id = some f := by rw [(find_mem hf).2]; exact hf
    have hg' : findF l g.id = some g := by rw [(find_mem hg).2]; exact hg
    repeat' split at hr
    all_goals subst hr
    all_goals first | (exact absurd h0 (by decide)) | skip
    rename_i e1 e2 e3 e4 e5 e6 e7
    have e8 : f.ty = 4 := by simpa using e2
    have e9 : g.ty = 4 := by simpa using e3
    have hnp := not_par hN ht hf' (by omega)
    have hnq := not_par hN ht hg' (by omega)
    have hpp : ∀ q ∈ l, q.par ≠ f.id ∧ q.par ≠ g.id := fun q hq => ⟨hnp q hq, hnq q hq⟩
    have hT := tr_without (x := f.id) (y := g.id) ht hpp
    have hfi := (hN.2 f (find_mem hf).1).1
    obtain ⟨m, m1, m2⟩ := dp_par ht hN.1 (find_mem hf).1 (by omega)
    obtain ⟨p1, p2⟩ := hpp f (find_mem hf).1
    have hD : Dp (withoutR l f.id g.id) m f.par := dp_without hpp m2 p1 p2
    have hG : f.par = 0 ∨ ∃ r, findF (withoutR l f.id g.id) f.par = some r ∧ r.ty = 6 := (ht.groups f (find_mem hf).1).imp id (fun ⟨q, a, b⟩ => ⟨q, by rw [find_without p1 p2]; exact a, b⟩)
    have hlen : (withoutR l f.id g.id).length < l.length := by
      unfold withoutR
      refine Nat.lt_of_le_of_ne (List.length_filter_le _ _) (fun e => ?_)
      have := List.length_filter_eq_length_iff.1 e f (find_mem hf).1
      simp [withoutP] at this
    refine ⟨by show 1 ≤ nx + 1; omega, by show nx + 1 ≤ _; omega, by simp only [plusR_len]; omega, ?_⟩
    exact tr_plus (nums_without hN f.id g.id) hp hT (f := ⟨0, c.name, 4, f.par⟩) (taken_name (by simpa using e6)) (by simp) hG ⟨m, m1, hD⟩
  have fin : ∀ r : Int × List Fld × Int, Nums r.2.1 r.2.2 → (1 ≤ r.2.2 ∧ r.2.2 ≤ 1073741824 ∧ r.2.1.length ≤ 64 ∧ Tr r.2.1) → Inv r.2.1 r.2.2 := fun r h1 h2 => ⟨h1, h2.1, h2.2.1, h2.2.2.1, h2.2.2.2⟩
  generalize hr : applyR l nx c = r at *
  refine fin r hnn ?_
  unfold applyR at hr
  repeat' split at hr
  all_goals first | exact a1 _ hr.symm h0 | exact a3 _ hr.symm h0 | exact a4 _ hr.symm h0 | exact a5 _ hr.symm h0 | (subst hr; exact absurd h0 (by decide))
theorem inv_after : ∀ (cs : List Chg) (s : List Fld × Int) (k : Nat), Inv s.1 s.2 → Inv (afterGo cs s k).1.1 (afterGo cs s k).1.2
  | [], s, k, h => h
  | c :: r, s, k, h => by
    unfold afterGo
    by_cases h0 : (applyR s.1 s.2 c).1 = 0
    · rw [if_neg (by rw [h0]; decide)]
      exact inv_after r _ _ (inv_apply h h0)
    · rw [if_pos (by simpa using h0)]; exact h
end Go.Proofs.Ythcphdgfdkgimaa
