/- Base: words for rows of flat cells that are read, and small laws on worlds; no program in sight. -/
import Derived.WalkKit
import Derived.WalkSpells
import Derived.WalkLawsBesides
import Derived.Lib.Hide
import Derived.Deep.AppendLies
import Derived.Maps.AppendAt
namespace Go.Proofs.Ythcphdgfdkgimaa
open Go.RowKit
/-- A row of elements, each of sz cells, that is read at A. -/
def Rd {α : Type} (enc : α → List Value) (sz : Nat) (w : World) (A : Option Addr) (l : List α) : Prop :=
  l.length ≤ 140737488355328 ∧ (l = [] ∨ ∃ b o, A = some ⟨b, o, none⟩ ∧ ∀ j x i u, l[j]? = some x → (enc x)[i]? = some u → w.cell? ⟨b, o + j * sz + i, none⟩ = some u)
theorem cell_lt {w : World} {a : Addr} {v : Value} (h : w.cell? a = some v) : a.block < w.heap.size := World.block_lt_of_cell? w a h
theorem cell_keep {w w' : World} (hb : Below w.heap.size w w') {a : Addr} {v : Value} (h : w.cell? a = some v) : w'.cell? a = some v := (hb.cell (cell_lt h)).trans h
theorem Rd.keep {α : Type} {enc : α → List Value} {sz : Nat} {w w' : World} {A : Option Addr} {l : List α} (h : Rd enc sz w A l) (hb : Below w.heap.size w w') : Rd enc sz w' A l := by
  refine ⟨h.1, h.2.imp id ?_⟩
  rintro ⟨b, o, e, hc⟩
  exact ⟨b, o, e, fun j x i u hj hi => cell_keep hb (hc j x i u hj hi)⟩
theorem Rd.nil {α : Type} (enc : α → List Value) (sz : Nat) (w : World) (A : Option Addr) : Rd enc sz w A [] := ⟨by simp, .inl rfl⟩
theorem bcell {W w1 : World} (hb : Below W.heap.size W w1) : (∀ b o, b < W.heap.size → w1.cell? ⟨b, o, none⟩ = W.cell? ⟨b, o, none⟩) ∧ (∀ b o, b < W.heap.size → w1.frozen? ⟨b, o, none⟩ = W.frozen? ⟨b, o, none⟩) :=
  ⟨fun b o h => hb.cell (p := ⟨b, o, none⟩) h, fun b o h => hb.frozen (p := ⟨b, o, none⟩) h⟩
theorem below_of {W w w1 : World} (h : Below W.heap.size W w) (k : Below w.heap.size w w1) : Below W.heap.size W w1 := h.trans (k.mono h.size)
theorem below_alloc {w W : World} (h : Below w.heap.size w W) (o : Obj) : Below w.heap.size w (W.alloc o) := h.alloc h.size o
theorem below_set {w W : World} (h : Below w.heap.size w W) {p : Addr} (hp : w.heap.size ≤ p.block) (v : Value) : Below w.heap.size w (W.setCell p v) := h.setCell hp v
theorem below_drewN {w W : World} {B : Nat} (h : Below B w W) (n : Nat) : Below B w (W.drewN n) := ⟨h.os, h.tape, h.output, h.size, h.block⟩
theorem below_drew {w W : World} {B : Nat} (h : Below B w W) : Below B w W.drew := h.drew
theorem below_refl (w : World) : Below w.heap.size w w := Below.refl _ _
theorem getElem_of_getD {α : Type} {l : List α} {k : Nat} (h : k < l.length) : l[k]? = some l[k] := List.getElem?_eq_getElem h

theorem end_tmp {P : Program} {fn : Func} {R : Ending → World → Prop} {a : Act} {w : World} {v : Value} {t : Tmp} (hr : fn.results = #[.tmp t]) (hv : a.tmps.getD t undef = v) (hd : a.defers = []) (hR : R (.returned v) w) : bodyPost P fn R .ret a w :=
  bodyPost_ret ((results_tmp hr _ _ _).trans (by rw [hv])) hd hR
theorem end_bool {P : Program} {fn : Func} {R : Ending → World → Prop} {a : Act} {w : World} {x y : Bool} {t : Tmp} (hr : fn.results = #[.tmp t]) (hv : a.tmps.getD t undef = .bool x) (hd : a.defers = []) (hxy : x = y) (hR : R (.returned (.bool y)) w) : bodyPost P fn R .ret a w := end_tmp hr (hv.trans (by rw [hxy])) hd hR
theorem end_int {P : Program} {fn : Func} {R : Ending → World → Prop} {a : Act} {w : World} {k : IntKind} {x y : Int} {t : Tmp} (hr : fn.results = #[.tmp t]) (hv : a.tmps.getD t undef = .int k x) (hd : a.defers = []) (hxy : x = y) (hR : R (.returned (.int k y)) w) : bodyPost P fn R .ret a w := end_tmp hr (hv.trans (by rw [hxy])) hd hR
/-- A block of one's own, known whole. -/
def Box (w : World) (b : Nat) (vs : List Value) (t : TypeId) : Prop := w.heap[b]? = some (.cells vs.toArray t (0, 0))
theorem Box.cell {w : World} {b : Nat} {vs : List Value} {t : TypeId} (h : Box w b vs t) (i : Nat) (v : Value) (hi : vs[i]? = some v) : w.cell? ⟨b, i, none⟩ = some v := by
  unfold Box at h; simp [World.cell?, h, hi]
theorem Box.frozen {w : World} {b : Nat} {vs : List Value} {t : TypeId} (h : Box w b vs t) (i : Nat) : w.frozen? ⟨b, i, none⟩ = false := by
  unfold Box at h; simp [World.frozen?, h]
theorem Box.lt {w : World} {b : Nat} {vs : List Value} {t : TypeId} (h : Box w b vs t) : b < w.heap.size := (Array.getElem?_eq_some_iff.1 h).1
theorem Box.keep {w w' : World} {b : Nat} {vs : List Value} {t : TypeId} (h : Box w b vs t) (hb : Below w.heap.size w w') : Box w' b vs t := (hb.block b h.lt).trans h
theorem box_new (W : World) {b : Nat} (vs : List Value) (t : TypeId) (h : b = W.heap.size) : Box (W.alloc (.cells vs.toArray t)) b vs t := by
  subst h; exact heap_alloc_new W _
theorem Box.alloc {w : World} {b : Nat} {vs : List Value} {t : TypeId} (h : Box w b vs t) (o : Obj) : Box (w.alloc o) b vs t := (Below.heap_alloc w o b h.lt).trans h
theorem end_cell {P : Program} {fn : Func} {R : Ending → World → Prop} {a : Act} {w : World} {g : Nat} {vs : List Value} {t : TypeId} {p : Tmp} {ty : TypeId} {d : TypeDesc} (hr : fn.results = #[.cell p ty]) (hp : a.tmps.getD p undef = .pointer (some ⟨g, 0, none⟩)) (hb : Box w g vs t)
    (hu : P.underlying ty = some d) (hd : (match d with | .struct _ | .array _ _ => true | _ => false) = true) (hi : (P.info? ty).map (·.size) = some vs.length) (hdf : a.defers = []) (hR : R (.returned (.agg vs.toArray)) w) : bodyPost P fn R .ret a w := by
  have hp' : a.tmps[p]?.getD undef = .pointer (some ⟨g, 0, none⟩) := by simpa using hp
  refine bodyPost_ret ?_ hdf hR
  simp [results, hr, hp', asAddr, run_loadVar_row w g t ty vs.toArray (0, 0) d hb hu hd (by simpa using hi)]
theorem end_cell_tmp {P : Program} {fn : Func} {R : Ending → World → Prop} {a : Act} {w : World} {g : Nat} {vs : List Value} {t : TypeId} {p q : Tmp} {ty : TypeId} {d : TypeDesc} {v : Value} (hr : fn.results = #[.cell p ty, .tmp q]) (hp : a.tmps.getD p undef = .pointer (some ⟨g, 0, none⟩)) (hq : a.tmps.getD q undef = v) (hb : Box w g vs t)
    (hu : P.underlying ty = some d) (hd : (match d with | .struct _ | .array _ _ => true | _ => false) = true) (hi : (P.info? ty).map (·.size) = some vs.length) (hdf : a.defers = []) (hR : R (.returned (.tuple #[.agg vs.toArray, v])) w) : bodyPost P fn R .ret a w := by
  have hp' : a.tmps[p]?.getD undef = .pointer (some ⟨g, 0, none⟩) := by simpa using hp
  have hq' : a.tmps[q]?.getD undef = v := by simpa using hq
  refine bodyPost_ret ?_ hdf hR
  simp [results, hr, hp', hq', asAddr, run_loadVar_row w g t ty vs.toArray (0, 0) d hb hu hd (by simpa using hi)]
/-! values, cells, fields, changes -/
structure Val where
  nul : Bool
  n : Int
  s : ByteArray
structure Cel where
  id : Int
  v : Val
structure Fld where
  id : Int
  name : ByteArray
  ty : Int
  par : Int
structure Chg where
  kind : Int
  id : Int
  wit : Int
  name : ByteArray
  other : ByteArray
  ty : Int
  par : Int
  sep : ByteArray
def Val.z : Val := ⟨false, 0, ⟨#[]⟩⟩
def Fld.z : Fld := ⟨0, ⟨#[]⟩, 0, 0⟩
def Val.enc (v : Val) : List Value := [.bool v.nul, .int .i64 v.n, .string v.s]
def Cel.enc (c : Cel) : List Value := [.int .i64 c.id, .bool c.v.nul, .int .i64 c.v.n, .string c.v.s]
def Fld.enc (f : Fld) : List Value := [.int .i64 f.id, .string f.name, .int .i64 f.ty, .int .i64 f.par]
def Chg.enc (c : Chg) : List Value := [.int .i64 c.kind, .int .i64 c.id, .int .i64 c.wit, .string c.name, .string c.other, .int .i64 c.ty, .int .i64 c.par, .string c.sep]
theorem Val.len (x : Val) : (Val.enc x).length = 3 := rfl
theorem Cel.len (x : Cel) : (Cel.enc x).length = 4 := rfl
theorem Fld.len (x : Fld) : (Fld.enc x).length = 4 := rfl
theorem Chg.len (x : Chg) : (Chg.enc x).length = 8 := rfl
abbrev RdF := Rd Fld.enc 4
abbrev RdC := Rd Cel.enc 4
abbrev RdV := Rd Val.enc 3
abbrev RdG := Rd Chg.enc 8
abbrev RdI := Rd (fun x : Int => [Value.int .i64 x]) 1
theorem RdF.at_ {w : World} {A : Option Addr} {l : List Fld} (h : RdF w A l) (k : Nat) (hk : k < l.length) : ∃ b o, A = some ⟨b, o, none⟩ ∧ b < w.heap.size ∧ w.cell? ⟨b, o + k * 4, none⟩ = some (.int .i64 l[k].id) ∧ w.cell? ⟨b, o + k * 4 + 1, none⟩ = some (.string l[k].name) ∧ w.cell? ⟨b, o + k * 4 + 2, none⟩ = some (.int .i64 l[k].ty) ∧ w.cell? ⟨b, o + k * 4 + 3, none⟩ = some (.int .i64 l[k].par) := by
  rcases h.2 with rfl | ⟨b, o, rfl, hc⟩
  · simp at hk
  · have e := getElem_of_getD hk
    have c0 := hc k _ 0 _ e rfl
    exact ⟨b, o, rfl, cell_lt c0, c0, hc k _ 1 _ e rfl, hc k _ 2 _ e rfl, hc k _ 3 _ e rfl⟩
theorem RdF.atk {w wr : World} {A : Option Addr} {l : List Fld} (h : RdF w A l) (HB : Below w.heap.size w wr) (k : Nat) (hk : k < l.length) : ∃ b o, A = some ⟨b, o, none⟩ ∧ b < w.heap.size ∧ b < wr.heap.size ∧ wr.cell? ⟨b, o + k * 4, none⟩ = some (.int .i64 l[k].id) ∧ wr.cell? ⟨b, o + k * 4 + 1, none⟩ = some (.string l[k].name) ∧ wr.cell? ⟨b, o + k * 4 + 2, none⟩ = some (.int .i64 l[k].ty) ∧ wr.cell? ⟨b, o + k * 4 + 3, none⟩ = some (.int .i64 l[k].par) := by
  obtain ⟨b, o, e, hb, c0, c1, c2, c3⟩ := RdF.at_ h k hk
  exact ⟨b, o, e, hb, Nat.lt_of_lt_of_le hb HB.size, cell_keep HB c0, cell_keep HB c1, cell_keep HB c2, cell_keep HB c3⟩
theorem RdC.at_ {w : World} {A : Option Addr} {l : List Cel} (h : RdC w A l) (k : Nat) (hk : k < l.length) : ∃ b o, A = some ⟨b, o, none⟩ ∧ b < w.heap.size ∧ w.cell? ⟨b, o + k * 4, none⟩ = some (.int .i64 l[k].id) ∧ w.cell? ⟨b, o + k * 4 + 1, none⟩ = some (.bool l[k].v.nul) ∧ w.cell? ⟨b, o + k * 4 + 2, none⟩ = some (.int .i64 l[k].v.n) ∧ w.cell? ⟨b, o + k * 4 + 3, none⟩ = some (.string l[k].v.s) := by
  rcases h.2 with rfl | ⟨b, o, rfl, hc⟩
  · simp at hk
  · have e := getElem_of_getD hk
    have c0 := hc k _ 0 _ e rfl
    exact ⟨b, o, rfl, cell_lt c0, c0, hc k _ 1 _ e rfl, hc k _ 2 _ e rfl, hc k _ 3 _ e rfl⟩

/-! rows of the call's own -/
/-- A row of the call's own, from block base on; its elements are l. -/
def Own {α : Type} (enc : α → List Value) (sz : Nat) (w : World) (base : Nat) (e : TypeId) (v : Value) (l : List α) : Prop :=
  w.ownsRow base e sz v l.length (l.flatMap enc)
theorem Own.none {α : Type} (enc : α → List Value) (sz : Nat) (w : World) (base : Nat) (e : TypeId) : Own enc sz w base e (.slice none 0 0) [] := World.ownsRow_nil w base e sz
theorem Own.slice {α : Type} {enc : α → List Value} {sz : Nat} {w : World} {base : Nat} {e : TypeId} {v : Value} {l : List α} (h : Own enc sz w base e v l) : ∃ A c, v = .slice A l.length c ∧ l.length ≤ c := by
  rcases h.2 with ⟨rfl, h0⟩ | ⟨g, cap, cur, rfl, _, _, hc, _⟩
  · exact ⟨Option.none, 0, by rw [h0], by omega⟩
  · exact ⟨_, cap, rfl, hc⟩
theorem Own.kept {α : Type} {enc : α → List Value} {sz : Nat} {w w' : World} {base : Nat} {e : TypeId} {v : Value} {l : List α} (h : Own enc sz w base e v l) (hb : Below w.heap.size w w') : Own enc sz w' base e v l :=
  World.ownsRow.kept h (row := Option.none) ⟨hb.os, hb.tape, hb.output, hb.size, fun k hk _ => hb.block k hk⟩ (by cases v.ownBlock <;> simp)
theorem Own.set {α : Type} {enc : α → List Value} {sz : Nat} {w : World} {base : Nat} {e : TypeId} {v : Value} {l : List α} (h : Own enc sz w base e v l) {a : Addr} (ha : a.block < base) (u : Value) : Own enc sz (w.setCell a u) base e v l := ownsRow_setCell_below h ha u
theorem Own.base {α : Type} {enc : α → List Value} {sz : Nat} {w : World} {base : Nat} {e : TypeId} {v : Value} {l : List α} (h : Own enc sz w base e v l) : ∀ k, v.ownBlock = some k → base ≤ k := fun k hk => (World.ownsRow.lt h k hk).1
theorem flatMap_get {α : Type} {enc : α → List Value} {sz : Nat} (hs : ∀ x, (enc x).length = sz) : ∀ (l : List α) (j : Nat) (x : α) (i : Nat) (u : Value), l[j]? = some x → (enc x)[i]? = some u → (l.flatMap enc)[j * sz + i]? = some u
  | [], j, x, i, u, hj, _ => by simp at hj
  | y :: r, 0, x, i, u, hj, hi => by
    obtain rfl : y = x := by simpa using hj
    rw [List.flatMap_cons, Nat.zero_mul, Nat.zero_add, List.getElem?_append_left (List.getElem?_eq_some_iff.1 hi).1]; exact hi
  | y :: r, j + 1, x, i, u, hj, hi => by
    rw [List.flatMap_cons, List.getElem?_append_right (by rw [hs, Nat.succ_mul]; omega), hs, show (j + 1) * sz + i - sz = j * sz + i by rw [Nat.succ_mul]; omega]
    exact flatMap_get hs r j x i u (by simpa using hj) hi
/-- The row begins at block base or behind it. -/
def Frm (base : Nat) (A : Option Addr) : Prop := ∀ a, A = some a → base ≤ a.block
theorem Frm.none (base : Nat) : Frm base Option.none := fun _ h => by cases h
theorem Frm.le {b b' : Nat} {A : Option Addr} (h : Frm b A) (hb : b' ≤ b) : Frm b' A := fun a ha => Nat.le_trans hb (h a ha)
theorem Own.rd {α : Type} {enc : α → List Value} {sz : Nat} (hs : ∀ x, (enc x).length = sz) {w : World} {base : Nat} {e : TypeId} {v : Value} {l : List α} (h : Own enc sz w base e v l) (hl : l.length ≤ 140737488355328) : ∃ A c, v = .slice A l.length c ∧ l.length ≤ c ∧ Rd enc sz w A l ∧ Frm base A := by
  rcases h.2 with ⟨rfl, h0⟩ | ⟨g, cap, cur, rfl, hgb, _, hc, _⟩
  · exact ⟨Option.none, 0, by rw [h0], by omega, ⟨hl, .inl (List.eq_nil_of_length_eq_zero h0)⟩, Frm.none _⟩
  · refine ⟨_, cap, rfl, hc, ⟨hl, .inr ⟨g, 0, rfl, fun j x i u hj hi => ?_⟩⟩, fun a ha => by cases ha; exact hgb⟩
    have := World.ownsRow.cells h (g := g) rfl (j * sz + i) u (flatMap_get hs l j x i u hj hi)
    rw [show ((⟨g, 0, Option.none⟩ : Addr).add (j * sz + i)) = ⟨g, 0 + (j * sz + i), Option.none⟩ by unfold Addr.add; split <;> simp_all] at this
    rw [show 0 + j * sz + i = 0 + (j * sz + i) by omega]; exact this
theorem Rd.far {α : Type} {enc : α → List Value} {sz : Nat} {w : World} {A : Option Addr} {l : List α} {base : Nat} (h : Rd enc sz w A l) (hf : Frm base A) {p : Addr} (hp : p.block < base) (u : Value) : Rd enc sz (w.setCell p u) A l := by
  refine ⟨h.1, h.2.imp id ?_⟩
  rintro ⟨b, o, rfl, hc⟩
  refine ⟨b, o, rfl, fun j x i u' hj hi => ?_⟩
  have hb := hf _ rfl
  have h2 := hc j x i u' hj hi
  unfold World.cell? at h2 ⊢
  rw [Below.heap_setCell w p u b (by simp at hb; omega)]
  exact h2
theorem Box.set {w : World} {b : Nat} {vs : List Value} {t : TypeId} (h : Box w b vs t) (i : Nat) (u : Value) : Box (w.setCell ⟨b, i, Option.none⟩ u) b (vs.set i u) t := by
  unfold Box at h ⊢; simp [World.setCell, Array.getElem?_modify, h]
theorem Box.far {w : World} {b : Nat} {vs : List Value} {t : TypeId} (h : Box w b vs t) {a : Addr} (ha : b ≠ a.block) (u : Value) : Box (w.setCell a u) b vs t := (Below.heap_setCell w a u b ha).trans h
theorem Box.grown {w w1 : World} {b : Nat} {vs : List Value} {t : TypeId} (h : Box w b vs t) {row : Option Nat} (hg : w.grownBy w1 row) (hr : some b ≠ row) : Box w1 b vs t := (hg.block b h.lt hr).trans h
theorem Own.ne {α : Type} {enc : α → List Value} {sz : Nat} {w : World} {base : Nat} {e : TypeId} {v : Value} {l : List α} (h : Own enc sz w base e v l) {b : Nat} (hb : b < base) : some b ≠ v.ownBlock := fun he => by have := h.base b he.symm; omega
theorem one_enc {vs : List Value} (h : vs.all (fun u => u.oneCell') = true) : ∀ u ∈ vs, u.oneCell' = true := List.all_eq_true.1 h
/-- append(v, x), x just boxed: at a plain region's list, behind 'at_builtin'. -/
theorem wpl_push {P : Program} {ops : Array Oper} {rest : List Oper} {o : Oper} {a : Act} {Q : Exit → Act → World → Prop} {α : Type} {enc : α → List Value} {sz : Nat} {w0 W : World} {l : List α} (x : α) {base : Nat} {v : Value} (hs : ∀ x, (enc x).length = sz) (h1 : (enc x).all (fun u => u.oneCell') = true)
    (hgd : o.guard = none) (s y : Operand) (t e : TypeId) (z : Value) (bytes : Nat) (ho : o.op = .call { callee := .builtin .append, args := #[s, y], argTypes := #[t, t] })
    (ht : P.underlying t = some (.slice e)) (hinfo : (P.info? e).map (fun i => (i.zero, i.size, i.bytes)) = some (some z, sz, bytes)) (hz : z.cells.size = sz) (hs0 : 0 < sz) (hb0 : 0 < bytes)
    (hsv : a.eval s = v) (hy : a.eval y = .slice (some ⟨W.heap.size, 0, Option.none⟩) 1 1) (HO : Own enc sz W base e v l) (HB : Below w0.heap.size w0 W) (hbase : base ≤ W.heap.size) (hw0 : w0.heap.size ≤ base) (hl : (l.length + 1) * bytes ≤ 140737488355328)
    (h : ∀ A1 c1 w1, Own enc sz w1 base e (.slice A1 (l.length + 1) c1) (l ++ [x]) → Below w0.heap.size w0 w1 → W.grownBy w1 v.ownBlock → wpList P ops Q rest (a.put o.dst (.slice A1 (l.length + 1) c1)) w1) : wpList P ops Q (o :: rest) a (W.alloc (.cells (enc x).toArray e)) := by
  obtain ⟨i0, hi, hzz⟩ := Option.map_eq_some_iff.1 hinfo
  simp only [Prod.mk.injEq] at hzz
  obtain ⟨hz0, hz1, hz2⟩ := hzz
  have hlen : l.length + 1 ≤ 140737488355328 := Nat.le_trans (Nat.le_mul_of_pos_right _ hb0) hl
  refine wpList_append_own (W.alloc (.cells (enc x).toArray e)) hgd s y t ho base e i0 z sz bytes ht hi hz0 hz1 hz2 hz hs0 v l.length (l.flatMap enc) hsv (World.ownsRow.alloc HO _) ⟨W.heap.size, 0, Option.none⟩ 1 1 (enc x) hy (by rw [hs]; simp)
    (by simpa using World.news_of_block (cs := (enc x).toArray) (t := e) (fr := (0, 0)) (heap_alloc_new W (.cells (enc x).toArray e))) (one_enc h1) (by simp only [maxLen]; omega) hl (by simp; omega) ?_
  intro v1 w1 hown hg _
  have hB : Below w0.heap.size w0 (W.alloc (.cells (enc x).toArray e)) := below_alloc HB _
  have HO1 : Own enc sz w1 base e v1 (l ++ [x]) := by unfold Own; simpa using hown
  obtain ⟨A1, c1, rfl, _⟩ := HO1.slice
  rw [List.length_append, List.length_singleton] at HO1 ⊢
  refine h A1 c1 w1 HO1 (hB.grown hg (by simp; omega) (fun k hk => Nat.le_trans hw0 (HO.base k hk))) ⟨hg.os, hg.tape, hg.output, Nat.le_trans (by simp) hg.size, fun k hk hr => (hg.block k (by simp; omega) hr).trans (Below.heap_alloc W _ k hk)⟩
/-- The same at any world that holds the box, for a region that draws its order. -/
theorem wp_push {P : Program} {o : Oper} {a : Act} {K : Act → World → Prop} {Q : Exit → Act → World → Prop} {α : Type} {enc : α → List Value} {sz : Nat} {w0 W : World} {l : List α} (x : α) {base g : Nat} {v : Value} (hs : ∀ x, (enc x).length = sz) (h1 : (enc x).all (fun u => u.oneCell') = true)
    (s y : Operand) (t e : TypeId) (z : Value) (bytes : Nat) (ho : o.op = .call { callee := .builtin .append, args := #[s, y], argTypes := #[t, t] })
    (ht : P.underlying t = some (.slice e)) (hinfo : (P.info? e).map (fun i => (i.zero, i.size, i.bytes)) = some (some z, sz, bytes)) (hz : z.cells.size = sz) (hs0 : 0 < sz) (hb0 : 0 < bytes)
    (hsv : a.eval s = v) (hy : a.eval y = .slice (some ⟨g, 0, Option.none⟩) 1 1) (hbox : Box W g (enc x) e) (HO : Own enc sz W base e v l) (HB : Below w0.heap.size w0 W) (hbase : base ≤ W.heap.size) (hw0 : w0.heap.size ≤ base) (hl : (l.length + 1) * bytes ≤ 140737488355328)
    (h : ∀ A1 c1 w1, Own enc sz w1 base e (.slice A1 (l.length + 1) c1) (l ++ [x]) → Below w0.heap.size w0 w1 → W.grownBy w1 v.ownBlock → K (a.put o.dst (.slice A1 (l.length + 1) c1)) w1) : o.wp P a W K Q := by
  obtain ⟨i0, hi, hzz⟩ := Option.map_eq_some_iff.1 hinfo
  simp only [Prod.mk.injEq] at hzz
  obtain ⟨hz0, hz1, hz2⟩ := hzz
  have hlen : l.length + 1 ≤ 140737488355328 := Nat.le_trans (Nat.le_mul_of_pos_right _ hb0) hl
  refine wp_append_own W s y t ho base e i0 z sz bytes ht hi hz0 hz1 hz2 hz hs0 v l.length (l.flatMap enc) hsv HO ⟨g, 0, Option.none⟩ 1 1 (enc x) hy (by rw [hs]; simp)
    (fun j u hj => by rw [show ((⟨g, 0, Option.none⟩ : Addr).add j) = ⟨g, j, Option.none⟩ by unfold Addr.add; split <;> simp_all]; exact hbox.cell j u hj) (one_enc h1) (by simp only [maxLen]; omega) hl hbase ?_
  intro v1 w1 hown hg _
  have HO1 : Own enc sz w1 base e v1 (l ++ [x]) := by unfold Own; simpa using hown
  obtain ⟨A1, c1, rfl, _⟩ := HO1.slice
  rw [List.length_append, List.length_singleton] at HO1 ⊢
  exact h A1 c1 w1 HO1 (HB.grown hg (Nat.le_trans hw0 hbase) (fun k hk => Nat.le_trans hw0 (HO.base k hk))) hg
theorem step_push {P : Program} {ops : Array Oper} {o : Oper} {a : Act} {K : Act → World → Prop} {Q : Exit → Act → World → Prop} {E : Prop} {α : Type} {enc : α → List Value} {sz : Nat} {w0 W : World} {l : List α} (x : α) {base g : Nat} {v : Value} (hs : ∀ x, (enc x).length = sz) (h1 : (enc x).all (fun u => u.oneCell') = true)
    (hgd : o.guard = none) (s y : Operand) (t e : TypeId) (z : Value) (bytes : Nat) (ho : o.op = .call { callee := .builtin .append, args := #[s, y], argTypes := #[t, t] })
    (ht : P.underlying t = some (.slice e)) (hinfo : (P.info? e).map (fun i => (i.zero, i.size, i.bytes)) = some (some z, sz, bytes)) (hz : z.cells.size = sz) (hs0 : 0 < sz) (hb0 : 0 < bytes)
    (hsv : a.eval s = v) (hy : a.eval y = .slice (some ⟨g, 0, Option.none⟩) 1 1) (hbox : Box W g (enc x) e) (HO : Own enc sz W base e v l) (HB : Below w0.heap.size w0 W) (hbase : base ≤ W.heap.size) (hw0 : w0.heap.size ≤ base) (hl : (l.length + 1) * bytes ≤ 140737488355328)
    (h : ∀ A1 c1 w1, Own enc sz w1 base e (.slice A1 (l.length + 1) c1) (l ++ [x]) → Below w0.heap.size w0 w1 → W.grownBy w1 v.ownBlock → K (a.put o.dst (.slice A1 (l.length + 1) c1)) w1) : if Region.wanted o (yielded ops a.tmps) = true then Oper.wp P o a W K Q else E := by
  rw [if_pos (by simp [Region.wanted, hgd])]
  exact wp_push x hs h1 s y t e z bytes ho ht hinfo hz hs0 hb0 hsv hy hbox HO HB hbase hw0 hl h
/-- append(v, src...): src a row that is read. -/
theorem run_append_rd {P : Program} {α : Type} {enc : α → List Value} {sz : Nat} {W : World} {l0 l : List α} {base : Nat} {v : Value} {A : Option Addr} {c : Nat} (hs : ∀ x, (enc x).length = sz) (h1 : ∀ x, (enc x).all (fun u => u.oneCell') = true)
    (t ty e : TypeId) (z : Value) (bytes : Nat) (ht : P.underlying t = some (.slice e)) (hinfo : (P.info? e).map (fun i => (i.zero, i.size, i.bytes)) = some (some z, sz, bytes)) (hz : z.cells.size = sz) (hs0 : 0 < sz) (hb0 : 0 < bytes)
    (HO : Own enc sz W base e v l0) (hr : Rd enc sz W A l) (hbase : base ≤ W.heap.size) (hl : (l0.length + l.length) * bytes ≤ 140737488355328) :
    ∃ A1 c1 w1, (Builtin.append_ #[t, t] ty #[v, .slice A l.length c]).run P W = .ok (.slice A1 (l0.length + l.length) c1) w1 ∧ Own enc sz w1 base e (.slice A1 (l0.length + l.length) c1) (l0 ++ l) ∧ W.grownBy w1 v.ownBlock := by
  obtain ⟨i0, hi, hzz⟩ := Option.map_eq_some_iff.1 hinfo
  simp only [Prod.mk.injEq] at hzz
  obtain ⟨hz0, hz1, hz2⟩ := hzz
  have hlen : l0.length + l.length ≤ 140737488355328 := Nat.le_trans (Nat.le_mul_of_pos_right _ hb0) hl
  have fin : ∀ v1 w1, (Builtin.append_ #[t, t] ty #[v, .slice A l.length c]).run P W = .ok v1 w1 → w1.ownsRow base e sz v1 (l0.length + l.length) (l0.flatMap enc ++ l.flatMap enc) → W.grownBy w1 v.ownBlock → ∃ A1 c1 w1, (Builtin.append_ #[t, t] ty #[v, .slice A l.length c]).run P W = .ok (.slice A1 (l0.length + l.length) c1) w1 ∧ Own enc sz w1 base e (.slice A1 (l0.length + l.length) c1) (l0 ++ l) ∧ W.grownBy w1 v.ownBlock := by
    intro v1 w1 hr2 hown hg
    have HO1 : Own enc sz w1 base e v1 (l0 ++ l) := by unfold Own; simpa using hown
    obtain ⟨A1, c1, rfl, _⟩ := HO1.slice
    rw [List.length_append] at HO1 hr2
    exact ⟨A1, c1, w1, hr2, HO1, hg⟩
  rcases A with _ | ad
  · have h0 : l = [] := by
      rcases hr.2 with h | ⟨b, o, h, _⟩
      · exact h
      · cases h
    subst h0
    refine fin v W ?_ (by unfold Own at HO; simpa using HO) ⟨rfl, rfl, rfl, Nat.le_refl _, fun _ _ _ => rfl⟩
    rcases HO.2 with ⟨rfl, hn⟩ | ⟨g, cap, cur, rfl, _, _, hnc, _⟩
    · simp [Builtin.append_, run_underlying ht, sizeOf, typeInfo, hi, Builtin.lenOf, Builtin.firstCells]
    · simp [Builtin.append_, run_underlying ht, sizeOf, typeInfo, hi, Builtin.lenOf, Builtin.firstCells, hnc, storeCells]
  · have hnews : ∀ j u, (l.flatMap enc)[j]? = some u → W.cell? (ad.add j) = some u := by
      intro j u hu
      rcases hr.2 with rfl | ⟨b, o, h, hc⟩
      · simp at hu
      · injection h with h
        subst h
        have hlen2 : ∀ l : List α, (l.flatMap enc).length = l.length * sz := by
          intro l; induction l with
          | nil => simp
          | cons x r ih => rw [List.flatMap_cons, List.length_append, hs, ih, List.length_cons, Nat.succ_mul]; omega
        have hj : j < l.length * sz := by rw [← hlen2]; exact (List.getElem?_eq_some_iff.1 hu).1
        have hq : j / sz < l.length := Nat.div_lt_of_lt_mul (by rw [Nat.mul_comm]; exact hj)
        have hm : j % sz < sz := Nat.mod_lt _ hs0
        have hxi : (enc l[j / sz])[j % sz]? = some ((enc l[j / sz])[j % sz]'(by rw [hs]; exact hm)) := List.getElem?_eq_getElem _
        have h3 := flatMap_get hs l (j / sz) _ (j % sz) _ (List.getElem?_eq_getElem hq) hxi
        rw [show j / sz * sz + j % sz = j by rw [Nat.mul_comm]; exact Nat.div_add_mod j sz, hu] at h3
        injection h3 with h3
        have h4 := hc (j / sz) _ (j % sz) _ (List.getElem?_eq_getElem hq) hxi
        rw [h3, show ((⟨b, o, Option.none⟩ : Addr).add j) = ⟨b, o + j, Option.none⟩ by unfold Addr.add; split <;> simp_all]
        rw [show o + j = o + j / sz * sz + j % sz by rw [Nat.add_assoc, show j / sz * sz + j % sz = j by rw [Nat.mul_comm]; exact Nat.div_add_mod j sz]]
        exact h4
    obtain ⟨v1, w1, hr2, hown, hg, _⟩ := run_append_own (P := P) W base t ty e i0 z sz bytes ht hi hz0 hz1 hz2 hz hs0 v l0.length (l0.flatMap enc) HO ad l.length c (l.flatMap enc) (by
        have hlen2 : ∀ l : List α, (l.flatMap enc).length = l.length * sz := by
          intro l; induction l with
          | nil => simp
          | cons x r ih => rw [List.flatMap_cons, List.length_append, hs, ih, List.length_cons, Nat.succ_mul]; omega
        exact hlen2 l) hnews (by
        intro u hu
        obtain ⟨x, _, hx⟩ := List.mem_flatMap.1 hu
        exact List.all_eq_true.1 (h1 x) u hx) (by simp only [maxLen]; omega) hl hbase
    exact fin v1 w1 hr2 hown hg
theorem wp_append_rd {P : Program} {o : Oper} {a : Act} {K : Act → World → Prop} {Q : Exit → Act → World → Prop} {α : Type} {enc : α → List Value} {sz : Nat} {W : World} {l0 l : List α} {base : Nat} {v : Value} {A : Option Addr} {c : Nat} (hs : ∀ x, (enc x).length = sz) (h1 : ∀ x, (enc x).all (fun u => u.oneCell') = true)
    (s y : Operand) (t e : TypeId) (z : Value) (bytes : Nat) (ho : o.op = .call { callee := .builtin .append, args := #[s, y], argTypes := #[t, t] }) (ht : P.underlying t = some (.slice e)) (hinfo : (P.info? e).map (fun i => (i.zero, i.size, i.bytes)) = some (some z, sz, bytes)) (hz : z.cells.size = sz) (hs0 : 0 < sz) (hb0 : 0 < bytes)
    (hsv : a.eval s = v) (hy : a.eval y = .slice A l.length c) (HO : Own enc sz W base e v l0) (hr : Rd enc sz W A l) (hbase : base ≤ W.heap.size) (hl : (l0.length + l.length) * bytes ≤ 140737488355328)
    (h : ∀ A1 c1 w1, Own enc sz w1 base e (.slice A1 (l0.length + l.length) c1) (l0 ++ l) → W.grownBy w1 v.ownBlock → K (a.put o.dst (.slice A1 (l0.length + l.length) c1)) w1) : o.wp P a W K Q := by
  obtain ⟨A1, c1, w1, hr2, h2, h3⟩ := run_append_rd (P := P) (c := c) hs h1 t o.type e z bytes ht hinfo hz hs0 hb0 HO hr hbase hl
  unfold Oper.wp execOp
  simp only [ho, resolve, invoke, builtin, Sem.run_bind, Sem.run_pure, Result.andThen_ok, List.map_toArray, List.map_cons, List.map_nil, hsv, hy, hr2]
  exact h A1 c1 w1 h2 h3
theorem wpl_append_rd {P : Program} {ops : Array Oper} {rest : List Oper} {o : Oper} {a : Act} {Q : Exit → Act → World → Prop} {α : Type} {enc : α → List Value} {sz : Nat} {W : World} {l0 l : List α} {base : Nat} {v : Value} {A : Option Addr} {c : Nat} (hs : ∀ x, (enc x).length = sz) (h1 : ∀ x, (enc x).all (fun u => u.oneCell') = true)
    (hgd : o.guard = none) (s y : Operand) (t e : TypeId) (z : Value) (bytes : Nat) (ho : o.op = .call { callee := .builtin .append, args := #[s, y], argTypes := #[t, t] }) (ht : P.underlying t = some (.slice e)) (hinfo : (P.info? e).map (fun i => (i.zero, i.size, i.bytes)) = some (some z, sz, bytes)) (hz : z.cells.size = sz) (hs0 : 0 < sz) (hb0 : 0 < bytes)
    (hsv : a.eval s = v) (hy : a.eval y = .slice A l.length c) (HO : Own enc sz W base e v l0) (hr : Rd enc sz W A l) (hbase : base ≤ W.heap.size) (hl : (l0.length + l.length) * bytes ≤ 140737488355328)
    (h : ∀ A1 c1 w1, Own enc sz w1 base e (.slice A1 (l0.length + l.length) c1) (l0 ++ l) → W.grownBy w1 v.ownBlock → wpList P ops Q rest (a.put o.dst (.slice A1 (l0.length + l.length) c1)) w1) : wpList P ops Q (o :: rest) a W :=
  wpList_plain hgd fun _ hK => wp_append_rd hs h1 s y t e z bytes ho ht hinfo hz hs0 hb0 hsv hy HO hr hbase hl (fun A1 c1 w1 h2 h3 => hK _ _ (h A1 c1 w1 h2 h3))
theorem Own.ne_type {α : Type} {enc : α → List Value} {sz : Nat} {w : World} {base : Nat} {e t : TypeId} {v : Value} {l : List α} (h : Own enc sz w base e v l) {b : Nat} {vs : List Value} (hb : Box w b vs t) (hne : e ≠ t) : some b ≠ v.ownBlock := by
  rcases h.2 with ⟨rfl, _⟩ | ⟨g, cap, cur, rfl, _, hh, _⟩
  · simp [Value.ownBlock]
  · intro he
    have : b = g := by simpa [Value.ownBlock] using he
    subst this
    unfold Box at hb
    rw [hb] at hh
    injection hh with hh
    injection hh with _ ht
    exact hne ht.symm
theorem Own.lit {α : Type} (enc : α → List Value) (sz : Nat) (W : World) {base g : Nat} (e : TypeId) (hb : base ≤ W.heap.size) (hg : g = W.heap.size) : Own enc sz (W.alloc (.cells #[] e)) base e (.slice (some ⟨g, 0, Option.none⟩) 0 0) [] := by
  subst hg
  have h := World.ownsRow_lit (base := base) (e := e) (size := sz) W #[] 0 hb (by simp [maxLen]) (by simp)
  unfold Own; simpa using h
theorem Own.far {α : Type} {enc : α → List Value} {sz : Nat} {w : World} {base : Nat} {e : TypeId} {v : Value} {l : List α} (h : Own enc sz w base e v l) {a : Addr} (ha : some a.block ≠ v.ownBlock) (u : Value) : Own enc sz (w.setCell a u) base e v l := by
  obtain ⟨h1, h2⟩ := h
  refine ⟨h1, ?_⟩
  rcases h2 with h2 | ⟨g, cap, cur, rfl, hg, hh, r⟩
  · exact .inl h2
  · exact .inr ⟨g, cap, cur, rfl, hg, by rw [Below.heap_setCell _ _ _ _ (fun e => ha (by rw [← e]; rfl))]; exact hh, r⟩
theorem wp_letter {P : Program} {c : Code} {Q : Exit → Act → World → Prop} {a : Act} {W : World} (h : ∀ W', W' = W → c.wp P Q a W') : c.wp P Q a W := h W rfl
theorem Rd.grown {α : Type} {enc : α → List Value} {sz : Nat} {w W w' : World} {A : Option Addr} {l : List α} (h : Rd enc sz w A l) (HB : Below w.heap.size w W) {row : Option Nat} (hg : W.grownBy w' row) (hr : ∀ k, row = some k → w.heap.size ≤ k) : Rd enc sz w' A l := h.keep (HB.grown hg HB.size hr)

/-! plain functions -/
def findF (l : List Fld) (id : Int) : Option Fld := l.find? (fun f => f.id == id)
def getF (l : List Fld) (id : Int) : Fld := (findF l id).getD .z
def hasF (l : List Fld) (id : Int) : Bool := (findF l id).isSome
abbrev fldV (f : Fld) : Value := .agg #[.int .i64 f.id, .string f.name, .int .i64 f.ty, .int .i64 f.par]
theorem findF_at {l : List Fld} {id : Int} {k : Nat} (hk : k < l.length) (hn : ∀ j (h : j < l.length), j < k → l[j].id ≠ id) (he : l[k].id = id) : findF l id = some l[k] := by
  unfold findF
  rw [List.find?_eq_some_iff_getElem]
  exact ⟨by simpa using he, k, hk, rfl, fun j hj => by simpa using hn j (by omega) hj⟩
theorem findF_none {l : List Fld} {id : Int} (hn : ∀ j (h : j < l.length), l[j].id ≠ id) : findF l id = none := by
  unfold findF
  rw [List.find?_eq_none]
  intro x hx
  obtain ⟨j, hj, rfl⟩ := List.getElem_of_mem hx
  simpa using hn j hj
theorem upto_step {n : Nat} {P : (j : Nat) → j < n → Prop} {k : Nat} (hn : ∀ j (h : j < n), j < k → P j h) (hk : ∀ h : k < n, P k h) : ∀ j (h : j < n), j < k + 1 → P j h := by
  intro j h hj
  rcases Nat.lt_succ_iff_lt_or_eq.1 hj with hj | rfl
  · exact hn j h hj
  · exact hk h
def okc (c : UInt8) : Bool := (decide (97 ≤ c.toNat) && decide (c.toNat ≤ 122)) || (decide (48 ≤ c.toNat) && decide (c.toNat ≤ 57)) || c.toNat == 95
theorem okc_yes {c : UInt8} (h : (97 ≤ (c.toNat : Int) ∧ (c.toNat : Int) ≤ 122) ∨ (48 ≤ (c.toNat : Int) ∧ (c.toNat : Int) ≤ 57) ∨ (c.toNat : Int) = 95) : okc c = true := by
  unfold okc; simp only [Bool.or_eq_true, Bool.and_eq_true, decide_eq_true_eq, beq_iff_eq]; omega
theorem okc_no {c : UInt8} (h : ¬ ((97 ≤ (c.toNat : Int) ∧ (c.toNat : Int) ≤ 122) ∨ (48 ≤ (c.toNat : Int) ∧ (c.toNat : Int) ≤ 57) ∨ (c.toNat : Int) = 95)) : okc c = false := by
  rw [← Bool.not_eq_true]; unfold okc; simp only [Bool.or_eq_true, Bool.and_eq_true, decide_eq_true_eq, beq_iff_eq]; omega
def nameOk (s : ByteArray) : Bool := s.data.toList.all okc && decide (1 ≤ s.size) && decide (s.size ≤ 32)
theorem all_at {s : ByteArray} {p : UInt8 → Bool} (h : ∀ j (h : j < s.size), p s[j] = true) : s.data.toList.all p = true := by
  rw [List.all_eq_true]; intro x hx
  obtain ⟨j, hj, rfl⟩ := List.getElem_of_mem hx
  exact h j (by simpa using hj)
theorem all_not {s : ByteArray} {p : UInt8 → Bool} {k : Nat} (hk : k < s.size) (h : p s[k] = false) : s.data.toList.all p = false := by
  rw [← Bool.not_eq_true, List.all_eq_true]; intro h'
  have := h' s[k] (by show s.data[k] ∈ s.data.toList; simp)
  rw [h] at this; cases this
def modR (x n : Int) : Int := if n ≤ 0 then 0 else Int.tmod (wrap64 (Int.tmod x n + n)) n
def sepOk (s : ByteArray) : Bool := decide (1 ≤ s.size) && decide (s.size ≤ 16)
def grp (l : List Fld) (id : Int) : Bool := id == 0 || (hasF l id && (getF l id).ty == 6)
/-- the depth, k rounds being left of nine -/
def depthR (l : List Fld) : Nat → Int → Int
  | 0, _ => 9
  | k + 1, id => if id = 0 then 9 - (k + 1 : Int) else if hasF l id then depthR l k (getF l id).par else 9
theorem depthR_zero (l : List Fld) (k : Nat) : depthR l k 0 = 9 - (k : Int) := by cases k <;> simp [depthR]
theorem depthR_step {l : List Fld} {k : Nat} {x : Int} (hk : k ≠ 0) (hx : x ≠ 0) : depthR l k x = if hasF l x then depthR l (k - 1) (getF l x).par else 9 := by
  cases k with
  | zero => exact absurd rfl hk
  | succ k => simp [depthR, hx]
def insideR (l : List Fld) (g : Int) : Nat → Int → Bool
  | 0, _ => false
  | k + 1, id => if id = 0 then false else if id = g then true else insideR l g k (getF l id).par
theorem insideR_step {l : List Fld} {g : Int} {k : Nat} {x : Int} (hk : k ≠ 0) (hx : x ≠ 0) : insideR l g k x = if x = g then true else insideR l g (k - 1) (getF l x).par := by
  cases k with
  | zero => exact absurd rfl hk
  | succ k => simp [insideR, hx]
theorem insideR_zero (l : List Fld) (g : Int) (k : Nat) : insideR l g k 0 = false := by cases k <;> simp [insideR]
def takenP (nm : ByteArray) (par x y : Int) (g : Fld) : Bool := g.par == par && (g.name.toList == nm.toList && (g.id != x && g.id != y))
def takenR (l : List Fld) (nm : ByteArray) (par x y : Int) : Bool := l.any (takenP nm par x y) || !nameOk nm
theorem any_not {α : Type} {l : List α} {p : α → Bool} (h : ∀ j (h : j < l.length), p l[j] = false) : l.any p = false := by
  rw [List.any_eq_false]; intro x hx; obtain ⟨j, hj, rfl⟩ := List.getElem_of_mem hx; simp [h j hj]
theorem any_yes {α : Type} {l : List α} {p : α → Bool} {k : Nat} (hk : k < l.length) (h : p l[k] = true) : l.any p = true := List.any_eq_true.2 ⟨_, List.getElem_mem hk, h⟩
end Go.Proofs.Ythcphdgfdkgimaa
