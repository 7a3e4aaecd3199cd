/- PLAIN: a region whose order is drawn: three operations at its head, of which one makes memory at a place that hangs on the world; an operation that alone is ready. -/
import Derived.Test.YtbjeaebgnnljhaaDoorOrd
namespace Go.Proofs.YtbjeaebgnnljhaaDoor
open Go

section
variable {P : Program} {ops : Array Oper} {Q : Exit → Act → World → Prop} {S : World → Prop} {md : Region.Mode}

/-- The operation's run leaves v, and the world as it was. -/
def LeavesSame (v : Value) (w : World) : Result Next → Prop
  | .ok (.value u) w' => u = v ∧ w' = w
  | _ => False
/-- The operation calls, and what is called leaves a value of which T holds. -/
def LeavesT (P : Program) (S : World → Prop) (T : Value → World → Prop) : Result Next → Prop
  | .ok (.enter f args) w' => Calls P f args w' fun e w'' => ∃ v, e = .returned v ∧ S w'' ∧ T v w''
  | _ => False
def Still (P : Program) (ops : Array Oper) (S : World → Prop) (o : Oper) (v : Value) (a : Act) : Prop :=
  Region.wanted o (yielded ops a.tmps) = true ∧ ∀ w, S w → LeavesSame v w ((execOp a.eval o).run P w)
def Makes (P : Program) (ops : Array Oper) (S : World → Prop) (T : Value → World → Prop) (o : Oper) (a : Act) : Prop :=
  Region.wanted o (yielded ops a.tmps) = true ∧ ∀ w, S w → LeavesT P S T ((execOp a.eval o).run P w)

theorem Still.op {i : Nat} {o : Oper} {v : Value} {a : Act} (hi : ops[i]? = some o) (h : Still P ops S o v a) {K : Act → World → Prop} {w : World} (hS : S w)
    (hK : K (a.put o.dst v) w) : wpOp P ops Q i K a w := by
  unfold Go.wpOp
  rw [hi]
  simp only [h.1, if_true]
  refine .inl ?_
  have h3 := h.2 w hS
  unfold Oper.wp
  generalize (execOp a.eval o).run P w = r at h3 ⊢
  match r, h3 with
  | .ok (.value u) w', h3 => obtain ⟨rfl, rfl⟩ := h3; exact hK
theorem Makes.op {i : Nat} {o : Oper} {T : Value → World → Prop} {a : Act} (hi : ops[i]? = some o) (h : Makes P ops S T o a) {K : Act → World → Prop} {w : World} (hS : S w)
    (hK : ∀ v w', S w' → T v w' → K (a.put o.dst v) w') : wpOp P ops Q i K a w := by
  unfold Go.wpOp
  rw [hi]
  simp only [h.1, if_true]
  refine .inl ?_
  have h3 := h.2 w hS
  unfold Oper.wp
  generalize (execOp a.eval o).run P w = r at h3 ⊢
  match r, h3 with
  | .ok (.enter f args) w', h3 =>
    refine Calls.mono h3 fun e w'' he => ?_
    obtain ⟨v, rfl, hS', hT⟩ := he
    exact hK _ _ hS' hT

theorem any_one {i n : Nat} {listed : Array Bool} {a : Act} {w : World} (hr : Region.ready md ops listed = [i])
    (h : wpOp P ops Q i (wpAny P md ops Q n (listed.setIfInBounds i true)) a w) : wpAny P md ops Q (n + 1) listed a w :=
  ⟨fun h' => (by rw [hr] at h'; cases h'), fun j hj => by
    rw [hr] at hj
    obtain rfl : j = i := by simpa using hj
    exact h⟩
theorem any_two {i i' n : Nat} {listed : Array Bool} {a : Act} {w : World} (hr : Region.ready md ops listed = [i, i'])
    (h : wpOp P ops Q i (wpAny P md ops Q n (listed.setIfInBounds i true)) a w) (h' : wpOp P ops Q i' (wpAny P md ops Q n (listed.setIfInBounds i' true)) a w) : wpAny P md ops Q (n + 1) listed a w :=
  ⟨fun h' => (by rw [hr] at h'; cases h'), fun j hj => by
    rw [hr] at hj
    simp only [List.mem_cons, List.mem_nil_iff, or_false] at hj
    rcases hj with rfl | rfl
    · exact h
    · exact h'⟩

/-- AN OPERATION THAT ALONE IS READY, from a known world. -/
theorem any_only {i n : Nat} {oi : Oper} {v : Value} {listed : Array Bool} {a : Act} {w : World} (hi : ops[i]? = some oi) (hr : Region.ready md ops listed = [i]) (hw : Region.wanted oi (yielded ops a.tmps) = true)
    (h : Leaves P S v ((execOp a.eval oi).run P w)) (k : ∀ w', S w' → wpAny P md ops Q n (listed.setIfInBounds i true) (a.put oi.dst v) w') : wpAny P md ops Q (n + 1) listed a w := by
  refine any_one hr ?_
  unfold Go.wpOp
  rw [hi]
  simp only [hw, if_true]
  refine .inl ?_
  unfold Oper.wp
  generalize (execOp a.eval oi).run P w = r at h ⊢
  match r, h with
  | .ok (.value u) w', h => obtain ⟨rfl, hS'⟩ := h; exact k _ hS'
  | .ok (.enter f args) w', h =>
    refine Calls.mono h fun e w'' he => ?_
    obtain ⟨rfl, hS'⟩ := he
    exact k _ hS'

/-- THE FORK AT THE HEAD: 0 (still), then 1 (makes memory); 2 (still) whenever. -/
theorem region_fork {id n : Nat} {a : Act} {w : World} {o0 o1 o2 : Oper} {v0 v2 : Value} {T : Value → World → Prop}
    (hm : P.follows .mixedOrders = true) (hn : ops.size = n + 3) (hS : S { w with drawn := w.drawn + 1 })
    (h0 : ops[0]? = some o0) (h1 : ops[1]? = some o1) (h2 : ops[2]? = some o2)
    (r1 : Region.ready .any ops (Array.replicate ops.size false) = [0, 2])
    (r2 : Region.ready .any ops ((Array.replicate ops.size false).setIfInBounds 0 true) = [1, 2])
    (r3 : Region.ready .any ops ((Array.replicate ops.size false).setIfInBounds 2 true) = [0])
    (r4 : Region.ready .any ops (((Array.replicate ops.size false).setIfInBounds 0 true).setIfInBounds 1 true) = [2])
    (r5 : Region.ready .any ops (((Array.replicate ops.size false).setIfInBounds 0 true).setIfInBounds 2 true) = [1])
    (d02 : ∀ d, o0.dst = some d → o2.dst ≠ some d) (d12 : ∀ d, o1.dst = some d → o2.dst ≠ some d)
    (g0 : ∀ x, x = a ∨ x = a.put o2.dst v2 → Still P ops S o0 v0 x)
    (g2 : ∀ x, x = a ∨ x = a.put o0.dst v0 ∨ (∃ v, x = (a.put o0.dst v0).put o1.dst v) → Still P ops S o2 v2 x)
    (g1 : ∀ x, x = a.put o0.dst v0 ∨ x = (a.put o0.dst v0).put o2.dst v2 → Makes P ops S T o1 x)
    (tail : ∀ v w', S w' → T v w' → wpAny P .any ops Q n ((((Array.replicate ops.size false).setIfInBounds 0 true).setIfInBounds 1 true).setIfInBounds 2 true) (((a.put o0.dst v0).put o1.dst v).put o2.dst v2) w') :
    (Code.region id ops true).wp P Q a w := by
  refine wp_region_any hm ?_
  generalize hL : Array.replicate ops.size false = L at *
  rw [hn]
  have last : ∀ w1, S w1 → wpAny P .any ops Q (n + 1) ((L.setIfInBounds 0 true).setIfInBounds 2 true) ((a.put o0.dst v0).put o2.dst v2) w1 := by
    intro w1 hS1
    refine any_one r5 ((g1 _ (.inr rfl)).op h1 hS1 fun v w' hS' hT => ?_)
    rw [Array.setIfInBounds_comm _ _ (by decide), Act.put_comm _ v2 v (fun d hd e => d12 d e hd)]
    exact tail v w' hS' hT
  refine any_two r1 ((g0 a (.inl rfl)).op h0 hS ?_) ((g2 a (.inl rfl)).op h2 hS ?_)
  · refine any_two r2 ((g1 _ (.inl rfl)).op h1 hS fun v w' hS' hT => ?_) ((g2 _ (.inr (.inl rfl))).op h2 hS (last _ hS))
    exact any_one r4 ((g2 _ (.inr (.inr ⟨v, rfl⟩))).op h2 hS' (tail v w' hS' hT))
  · refine any_one r3 ((g0 _ (.inr rfl)).op h0 hS ?_)
    rw [Array.setIfInBounds_comm _ _ (by decide), Act.put_comm _ v2 v0 (fun d hd e => d02 d e hd)]
    exact last _ hS
end
end Go.Proofs.YtbjeaebgnnljhaaDoor
