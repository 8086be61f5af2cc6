/- A region that draws its order, walked along an order that is typed out: readers first (each yields its value in every world that meets S); what makes or writes memory as it comes up, alone or one of two. -/
import Derived.Test.YthcphdgfdkgimaaWLast
import Derived.Test.YthcphdgfdkgimaaBase
import Derived.KernelRfl
import Derived.Deep.Quiet
import Derived.Deep.QuietTactic
namespace Go.Proofs.Ythcphdgfdkgimaa
open Go.RowKit
open Go.Proofs.YthcphdgfdkgimaaW.PrintLast
inductive Ordr where
  | e
  | q (i : Nat) (t : Ordr)
  | g (i : Nat) (t : Ordr)
  | two (i j : Nat) (s t : Ordr)
def Ordr.reads : Ordr → Bool
  | .e => false
  | .q _ _ => true
  | .g _ t => t.reads
  | .two _ _ s t => s.reads || t.reads
section
variable {P : Program} {ops : Array Oper} {Q : Exit → Act → World → Prop} {md : Region.Mode} {S : World → Prop} {ds : List Nat}
/-- Does this order serve for all? -/
def ordB (md : Region.Mode) (ops : Array Oper) (ds : List Nat) : Ordr → Nat → Array Bool → Bool
  | .e, n, l => (n == 0) && (Region.ready md ops l == [])
  | .q i r, n, l => (1 ≤ n) && Region.free md ops l i && (Region.ready md ops l).contains i && Region.closedB md ops l && Region.lastB md ops l ds i && ordB md ops ds r (n - 1) (l.setIfInBounds i true)
  | .g i r, n, l => (1 ≤ n) && (Region.ready md ops l == [i]) && (!ds.contains i || !r.reads) && ordB md ops ds r (n - 1) (l.setIfInBounds i true)
  | .two i j s t, n, l => (1 ≤ n) && (Region.ready md ops l == [i, j]) && (!ds.contains i) && (!ds.contains j) && ordB md ops ds s (n - 1) (l.setIfInBounds i true) && ordB md ops ds t (n - 1) (l.setIfInBounds j true)
/-- Operation i is carried out, whatever it is. -/
def wpOne (P : Program) (ops : Array Oper) (Q : Exit → Act → World → Prop) (i : Nat) (a : Act) (w : World) (F : Act → World → Prop) : Prop :=
  ∃ o, ops[i]? = some o ∧ ∀ K : Act → World → Prop, Shut (∀ a' w', F a' w' → K a' w') → if Region.wanted o (yielded ops a.tmps) = true then Oper.wp P o a w K Q else K (a.put o.dst undef) w
def wpOrd (P : Program) (ops : Array Oper) (Q : Exit → Act → World → Prop) (S : World → Prop) (ds : List Nat) : Ordr → Act → World → Prop
  | .e, a, w => Q .normal a w
  | .q i r, a, w => ∃ o v, ops[i]? = some o ∧ YieldsIf P ops S o v a ∧ wpOrd P ops Q S ds r (a.put o.dst v) w
  | .g i r, a, w => wpOne P ops Q i a w (fun a' w' => (ds.contains i = false → S w') ∧ wpOrd P ops Q S ds r a' w')
  | .two i j s t, a, w => wpOne P ops Q i a w (fun a' w' => S w' ∧ wpOrd P ops Q S ds s a' w') ∧ wpOne P ops Q j a w (fun a' w' => S w' ∧ wpOrd P ops Q S ds t a' w')
theorem ord_run (hs : Region.noSelect ops = true) (hQ : ∀ c a d v w, Q (.panic c) (Act.put a d v) w → Q (.panic c) a w) : ∀ (ks : Ordr) (n : Nat) (l : Array Bool) (a : Act) (w : World), ordB md ops ds ks n l = true → (ks.reads = true → S w) →
    wpOrd P ops Q S ds ks a w → wpAnyLast P md ops Q S ds n l a w
  | .e, n, l, a, w, hb, _, h => by
    simp only [ordB, Bool.and_eq_true, beq_iff_eq] at hb
    exact wpAnyLast_done hb.2 h _
  | .q i r, n, l, a, w, hb, hS, h => by
    obtain ⟨o, v, ho, hy, hn⟩ := h
    simp only [ordB, Bool.and_eq_true, decide_eq_true_eq] at hb
    obtain ⟨⟨⟨⟨⟨h0, h1⟩, h2⟩, h3⟩, h4⟩, h5⟩ := hb
    obtain ⟨m, rfl⟩ : ∃ m, n = m + 1 := ⟨n - 1, by omega⟩
    exact wpAnyLast_take ho hs h1 h2 h3 h4 (fun c a w => hQ c a o.dst v w) hy (hS rfl) (ord_run hs hQ r _ _ _ _ h5 (fun _ => hS rfl) hn)
  | .g i r, n, l, a, w, hb, hS, h => by
    obtain ⟨o, ho, hn⟩ := h
    simp only [ordB, Bool.and_eq_true, beq_iff_eq, decide_eq_true_eq] at hb
    obtain ⟨⟨⟨h0, h1⟩, h2⟩, h3⟩ := hb
    obtain ⟨m, rfl⟩ : ∃ m, n = m + 1 := ⟨n - 1, by omega⟩
    by_cases hd : ds.contains i = true
    · have hr : r.reads = false := by rw [hd] at h2; simpa using h2
      exact wpAnyLast_ready h1 (by simp) (AllReadyL.cons_last ho (by simpa using hd) (fun K hK => hn K (fun a' w' h' => hK a' w' (ord_run hs hQ r _ _ _ _ h3 (fun h' => by rw [hr] at h'; cases h') h'.2))) AllReadyL.nil)
    · have hd' : ds.contains i = false := by simpa using hd
      exact wpAnyLast_ready h1 (by simp) (AllReadyL.cons ho (by simpa using hd) (fun K hK => hn K (fun a' w' h' => hK a' w' (h'.1 hd') (fun hS' => ord_run hs hQ r _ _ _ _ h3 (fun _ => hS') h'.2))) AllReadyL.nil)
  | .two i j s t, n, l, a, w, hb, hS, h => by
    obtain ⟨⟨o, ho, hn⟩, ⟨o2, ho2, hn2⟩⟩ := h
    simp only [ordB, Bool.and_eq_true, beq_iff_eq, decide_eq_true_eq, Bool.not_eq_true'] at hb
    obtain ⟨⟨⟨⟨⟨h0, h1⟩, h2⟩, h3⟩, h4⟩, h5⟩ := hb
    obtain ⟨m, rfl⟩ : ∃ m, n = m + 1 := ⟨n - 1, by omega⟩
    exact wpAnyLast_ready h1 (by simp) (AllReadyL.cons ho (by simpa using h2) (fun K hK => hn K (fun a' w' h' => hK a' w' h'.1 (fun hS' => ord_run hs hQ s _ _ _ _ h4 (fun _ => hS') h'.2)))
      (AllReadyL.cons ho2 (by simpa using h3) (fun K hK => hn2 K (fun a' w' h' => hK a' w' h'.1 (fun hS' => ord_run hs hQ t _ _ _ _ h5 (fun _ => hS') h'.2))) AllReadyL.nil))
/-- The region, by an order; the draw first. -/
theorem region_ord {id : Nat} {a : Act} {w : World} {l : List Oper} (S : World → Prop) (ds : List Nat) (ks : Ordr) (hm : P.follows .mixedOrders = true) (hk : (Region.noSelect l.toArray && ordB .any l.toArray ds ks l.length (Array.replicate l.length false)) = true)
    (hQ : ∀ c a d v w, Q (.panic c) (Act.put a d v) w → Q (.panic c) a w) (hS : S w.drew) (h : wpOrd P l.toArray Q S ds ks a w.drew) : (Code.region id l.toArray true).wp P Q a w := by
  simp only [Bool.and_eq_true] at hk
  refine wp_region_last (S := S) (ds := ds) hm ?_
  have h4 := ord_run (md := .any) (S := S) (ds := ds) hk.1 hQ ks l.length (Array.replicate l.length false) a w.drew hk.2 (fun _ => hS) h
  simpa using h4
theorem ord_e {a : Act} {w : World} (h : Q .normal a w) : wpOrd P ops Q S ds .e a w := h
/-- A reader. -/
theorem ord_q {i : Nat} {r : Ordr} {a : Act} {w : World} {o : Oper} {v : Value} (ho : ops[i]? = some o) (hw : Region.wanted o (yielded ops a.tmps) = true) (hy : ∀ w, S w → (execOp a.eval o).run P w = .ok (.value v) w) (h : wpOrd P ops Q S ds r (a.put o.dst v) w) : wpOrd P ops Q S ds (.q i r) a w :=
  ⟨o, v, ho, .inl ⟨hw, hy⟩, h⟩
theorem ord_off {i : Nat} {r : Ordr} {a : Act} {w : World} {o : Oper} (ho : ops[i]? = some o) (hw : Region.wanted o (yielded ops a.tmps) = false) (h : wpOrd P ops Q S ds r (a.put o.dst undef) w) : wpOrd P ops Q S ds (.q i r) a w :=
  ⟨o, undef, ho, .inr ⟨hw, rfl⟩, h⟩
/-- Another operation, at 'Oper.wp'; S shown behind it. -/
theorem one_g {i : Nat} {a : Act} {w : World} {F : Act → World → Prop} {o : Oper} (ho : ops[i]? = some o) (hw : Region.wanted o (yielded ops a.tmps) = true) (h : ∀ K : Act → World → Prop, Shut (∀ a' w', F a' w' → K a' w') → Oper.wp P o a w K Q) : wpOne P ops Q i a w F :=
  ⟨o, ho, fun K hK => by rw [if_pos hw]; exact h K hK⟩
theorem ord_g {i : Nat} {r : Ordr} {a : Act} {w : World} {o : Oper} (ho : ops[i]? = some o) (hw : Region.wanted o (yielded ops a.tmps) = true) (h : ∀ K : Act → World → Prop, Shut (∀ a' w', S w' → wpOrd P ops Q S ds r a' w' → K a' w') → Oper.wp P o a w K Q) : wpOrd P ops Q S ds (.g i r) a w :=
  one_g ho hw (fun K hK => h K (fun a' w' hs hr => hK a' w' ⟨fun _ => hs, hr⟩))
/-- Behind an operation of ds nothing is shown. -/
theorem ord_l {i : Nat} {r : Ordr} {a : Act} {w : World} {o : Oper} (ho : ops[i]? = some o) (hd : ds.contains i = true) (hw : Region.wanted o (yielded ops a.tmps) = true) (h : ∀ K : Act → World → Prop, Shut (∀ a' w', wpOrd P ops Q S ds r a' w' → K a' w') → Oper.wp P o a w K Q) : wpOrd P ops Q S ds (.g i r) a w :=
  one_g ho hw (fun K hK => h K (fun a' w' hr => hK a' w' ⟨fun h' => (by rw [hd] at h'; cases h'), hr⟩))
theorem ord_two {i j : Nat} {s t : Ordr} {a : Act} {w : World} {o o2 : Oper} (ho : ops[i]? = some o) (ho2 : ops[j]? = some o2) (hw : Region.wanted o (yielded ops a.tmps) = true) (hw2 : Region.wanted o2 (yielded ops a.tmps) = true)
    (h : ∀ K : Act → World → Prop, Shut (∀ a' w', S w' → wpOrd P ops Q S ds s a' w' → K a' w') → Oper.wp P o a w K Q) (h2 : ∀ K : Act → World → Prop, Shut (∀ a' w', S w' → wpOrd P ops Q S ds t a' w' → K a' w') → Oper.wp P o2 a w K Q) : wpOrd P ops Q S ds (.two i j s t) a w :=
  ⟨one_g ho hw (fun K hK => h K (fun a' w' hs hr => hK a' w' ⟨hs, hr⟩)), one_g ho2 hw2 (fun K hK => h2 K (fun a' w' hs hr => hK a' w' ⟨hs, hr⟩))⟩
theorem region_below {id : Nat} {a : Act} {w : World} {l : List Oper} (hm : P.follows .mixedOrders = true) (hB : Region.lexB .any l.toArray = true)
    (h : wpQuiet P l.toArray (fun w' => Below w.heap.size w w') (fun a' => ∀ w', Below w.heap.size w w' → Q .normal a' w') l a) : (Code.region id l.toArray true).wp P Q a w :=
  wp_region_quiet (C := fun w' => Below w.heap.size w w') hm hB (below_drew (below_refl w)) (by simpa using h)
theorem quiet_on {C : World → Prop} {Q : Act → Prop} {a : Act} {o : Oper} {rest : List Oper} {v : Value} (hw : Region.wanted o (yielded ops a.tmps) = true) (hy : ∀ w, C w → o.quietAt P a C w v) (h : wpQuiet P ops C Q rest (a.put o.dst v)) : wpQuiet P ops C Q (o :: rest) a := by
  unfold wpQuiet; rw [if_pos hw]; exact ⟨v, hy, h⟩
theorem quiet_off {C : World → Prop} {Q : Act → Prop} {a : Act} {o : Oper} {rest : List Oper} (hw : Region.wanted o (yielded ops a.tmps) = false) (h : wpQuiet P ops C Q rest (a.put o.dst undef)) : wpQuiet P ops C Q (o :: rest) a := by
  unfold wpQuiet; rw [if_neg (by rw [hw]; decide)]; exact h
end
end Go.Proofs.Ythcphdgfdkgimaa
