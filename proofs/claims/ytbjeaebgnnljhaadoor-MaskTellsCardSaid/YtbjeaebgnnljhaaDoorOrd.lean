/- PLAIN: A REGION WHOSE ORDER IS DRAWN, AND WHOSE OPERATIONS EACH LEAVE ONE VALUE WHATEVER COMES BEFORE THEM (calls too): one order stands for all. -/
import Derived.Orders
namespace Go.Proofs.YtbjeaebgnnljhaaDoor
open Go

section
variable {P : Program} {ops : Array Oper} {Q : Exit → Act → World → Prop} {S : World → Prop}

/-- The operation's run leaves v, and S holds of the world behind it. -/
def Leaves (P : Program) (S : World → Prop) (v : Value) : Result Next → Prop
  | .ok (.value u) w' => u = v ∧ S w'
  | .ok (.enter f args) w' => Calls P f args w' fun e w'' => e = .returned v ∧ S w''
  | _ => False

/-- In state a, in every world of S, operation o leaves v and a world of S; or it is not wanted. -/
def Gives (P : Program) (ops : Array Oper) (S : World → Prop) (o : Oper) (v : Value) (a : Act) : Prop :=
  (Region.wanted o (yielded ops a.tmps) = true ∧ ∀ w, S w → Leaves P S v ((execOp a.eval o).run P w)) ∨
  (Region.wanted o (yielded ops a.tmps) = false ∧ v = undef)

theorem Gives.move {o : Oper} {v : Value} {a a' : Act} (h : Gives P ops S o v a) (he : execOp a'.eval o = execOp a.eval o)
    (hw : Region.wanted o (yielded ops a'.tmps) = Region.wanted o (yielded ops a.tmps)) : Gives P ops S o v a' := by
  rcases h with ⟨h1, h2⟩ | ⟨h1, h2⟩
  · exact .inl ⟨hw.trans h1, fun w hS => by rw [he]; exact h2 w hS⟩
  · exact .inr ⟨hw.trans h1, h2⟩

theorem Gives.op {i : Nat} {o : Oper} {v : Value} {a : Act} (hi : ops[i]? = some o) (h : Gives P ops S o v a) {K : Act → World → Prop} {w : World} (hS : S w)
    (hK : ∀ w', S w' → K (a.put o.dst v) w') : wpOp P ops Q i K a w := by
  unfold Go.wpOp
  rw [hi]
  rcases h with ⟨h1, h2⟩ | ⟨h1, rfl⟩
  · simp only [h1, if_true]
    refine .inl ?_
    have h3 := h2 w hS
    unfold Oper.wp
    generalize (execOp a.eval o).run P w = r at h3 ⊢
    match r, h3 with
    | .ok (.value u) w', h3 => obtain ⟨rfl, hS'⟩ := h3; exact hK _ hS'
    | .ok (.enter f args) w', h3 =>
      refine Calls.mono h3 fun e w'' he => ?_
      obtain ⟨rfl, hS'⟩ := he
      exact hK _ hS'
  · simp only [h1, Bool.false_eq_true, if_false]
    exact hK _ hS

/-- A step of another operation, apart from this one, with this one's value laid or not yet laid. -/
theorem step_apart {j : Nat} {oi oj : Oper} {v : Value} (hj : ops[j]? = some oj) (hap : oi.apart ops oj = true) (hsi : ∀ cs b, oi.op ≠ .select cs b) (hsj : ∀ cs b, oj.op ≠ .select cs b)
    (hQ : ∀ c a w, Q (.panic c) (a.put oi.dst v) w → Q (.panic c) a w) {K : Act → World → Prop} {a : Act} {w : World} (hg : Gives P ops S oi v a)
    (h : wpOp P ops Q j K (a.put oi.dst v) w) : wpOp P ops Q j (fun a' w' => Gives P ops S oi v a' ∧ K (a'.put oi.dst v) w') a w := by
  obtain ⟨l1, l2, l3⟩ := Oper.apart_spec hap
  have keep : ∀ (b : Act) (u : Value), Gives P ops S oi v b → Gives P ops S oi v (b.put oj.dst u) := fun b u hb => hb.move (execOp_put oi hsi b oj.dst u l3) (wanted_put oi b oj.dst u l3)
  have hx : execOp (a.put oi.dst v).eval oj = execOp a.eval oj := execOp_put oj hsj a oi.dst v l1
  have hw : Region.wanted oj (yielded ops (a.put oi.dst v).tmps) = Region.wanted oj (yielded ops a.tmps) := wanted_put oj a oi.dst v l1
  have swap : ∀ (b : Act) (u : Value), K ((b.put oi.dst v).put oj.dst u) = K ((b.put oj.dst u).put oi.dst v) := fun b u => by rw [Act.put_comm b v u l2]
  unfold Go.wpOp at h ⊢
  rw [hj] at h ⊢
  simp only [hw] at h ⊢
  cases hwd : Region.wanted oj (yielded ops a.tmps) with
  | false =>
    simp only [hwd, Bool.false_eq_true, if_false] at h ⊢
    exact ⟨keep a undef hg, by rw [← swap]; exact h⟩
  | true =>
    simp only [hwd, if_true] at h ⊢
    rcases h with h | ⟨h1, h2⟩
    · refine .inl ?_
      unfold Oper.wp at h ⊢
      rw [hx] at h
      generalize (execOp a.eval oj).run P w = r at h ⊢
      cases r with
      | halt x w' => cases x <;> simp only [Oper.upon] at h ⊢; exact hQ _ _ _ h
      | ok n w' =>
        cases n <;> simp only [Oper.upon] at h ⊢
        · exact ⟨keep a _ hg, by rw [← swap]; exact h⟩
        · exact ⟨keep a _ hg, by rw [← swap]; exact h⟩
        · refine Calls.mono h fun e w'' he => ?_
          cases e with
          | returned u => exact ⟨keep a u hg, by rw [← swap]; exact he⟩
          | panicked c => exact hQ _ _ _ he
          | outgrown => exact he
        · exact ⟨keep _ _ (hg.move rfl rfl), by rw [← swap, ← Act.put_defers]; exact h⟩
        · exact Rows.mono h fun u w'' he => ⟨keep a u hg, by rw [← swap]; exact he⟩
    · exact .inr ⟨by unfold Oper.asks at h1 ⊢; rw [hx] at h1; exact h1, h2⟩

variable {md : Region.Mode}
/-- Whatever order is picked from here on, from whatever world of S. -/
def wpEach (P : Program) (md : Region.Mode) (ops : Array Oper) (Q : Exit → Act → World → Prop) (S : World → Prop) : Nat → Array Bool → Act → Prop
  | 0, listed, a => Region.ready md ops listed = [] ∧ ∀ w, S w → Q .normal a w
  | fuel + 1, listed, a =>
    (Region.ready md ops listed = [] → ∀ w, S w → Q .normal a w) ∧
    ∀ i ∈ Region.ready md ops listed, ∀ w, S w → wpOp P ops Q i (fun a' w' => S w' ∧ wpEach P md ops Q S fuel (listed.setIfInBounds i true) a') a w

theorem wpAny_of_each : ∀ (fuel : Nat) (listed : Array Bool) (a : Act) (w : World), S w → wpEach P md ops Q S fuel listed a → wpAny P md ops Q fuel listed a w
  | 0, _, _, w, hS, h => ⟨h.1, h.2 w hS⟩
  | fuel + 1, _, _, w, hS, h => ⟨fun hr => h.1 hr w hS, fun i hi => wpOp_mono (fun a' w' h' => wpAny_of_each fuel _ a' w' h'.1 h'.2) (h.2 i hi w hS)⟩

theorem each_first {i : Nat} {oi : Oper} {v : Value} (hi : ops[i]? = some oi) (hsel : ∀ (j : Nat) (o : Oper) cs b, ops[j]? = some o → o.op ≠ .select cs b)
    (hQ : ∀ c a w, Q (.panic c) (a.put oi.dst v) w → Q (.panic c) a w) :
    ∀ (fuel : Nat) (listed : Array Bool) (a : Act),
      (∀ j oj, ops[j]? = some oj → j ≠ i → listed.getD j true = false → (∀ e ∈ oj.after, Region.binds md e = true → e.on ≠ i) → oi.apart ops oj = true) →
      i ∈ Region.ready md ops listed → Gives P ops S oi v a →
      wpEach P md ops Q S fuel (listed.setIfInBounds i true) (a.put oi.dst v) → wpEach P md ops Q S (fuel + 1) listed a := by
  intro fuel
  induction fuel with
  | zero =>
    intro listed a _ hr hg H
    refine ⟨fun h => (by rw [h] at hr; cases hr), fun j hj w hS => ?_⟩
    by_cases hji : j = i
    · subst hji; exact hg.op hi hS fun w' hS' => ⟨hS', H⟩
    · have h := ready_mono hj hji
      rw [H.1] at h; cases h
  | succ fuel ih =>
    intro listed a hfree hr hg H
    refine ⟨fun h => (by rw [h] at hr; cases hr), fun j hj w hS => ?_⟩
    by_cases hji : j = i
    · subst hji; exact hg.op hi hS fun w' hS' => ⟨hS', H⟩
    · obtain ⟨hun, oj, hoj, hall⟩ := mem_ready.1 hj
      have hno : ∀ e ∈ oj.after, Region.binds md e = true → e.on ≠ i := fun e he hb hei => by
        have h1 := hall e he hb
        have h0 := (mem_ready.1 hr).1
        rw [hei] at h1
        rcases Nat.lt_or_ge i listed.size with hlt | hge
        · simp [hlt] at h0 h1; rw [h0] at h1; cases h1
        · simp [Array.getElem?_eq_none hge] at h1
      have h1 := step_apart hoj (hfree j oj hoj hji hun hno) (fun cs b => hsel i oi cs b hi) (fun cs b => hsel j oj cs b hoj) hQ hg (H.2 j (ready_mono hj hji) w hS)
      refine wpOp_mono (fun a' w' h2 => ⟨h2.2.1, ih (listed.setIfInBounds j true) a' ?_ (ready_mono hr (Ne.symm hji)) h2.1 ?_⟩) h1
      · intro k ok hk hki hunk hnok
        refine hfree k ok hk hki ?_ hnok
        by_cases hjk : j = k
        · subst hjk; exact hun
        · rw [getD_set_ne true hjk] at hunk; exact hunk
      · rw [Array.setIfInBounds_comm _ _ hji]
        exact h2.2.2

/-- TAKE NUMBER i NOW. -/
theorem each_take {i : Nat} {oi : Oper} {v : Value} {fuel : Nat} {listed : Array Bool} {a : Act} (hi : ops[i]? = some oi)
    (hs : Region.noSelect ops = true) (hf : Region.free md ops listed i = true) (hr : (Region.ready md ops listed).contains i = true)
    (hQ : ∀ c a w, Q (.panic c) (a.put oi.dst v) w → Q (.panic c) a w) (hg : Gives P ops S oi v a)
    (h : wpEach P md ops Q S fuel (listed.setIfInBounds i true) (a.put oi.dst v)) : wpEach P md ops Q S (fuel + 1) listed a :=
  each_first hi (fun j o cs b ho => Region.noSelect_spec hs j o cs b ho) hQ fuel listed a (fun j oj => Region.free_spec hi hf j oj) (by simpa using hr) hg h

theorem each_done {listed : Array Bool} {a : Act} (hr : Region.ready md ops listed = []) (h : ∀ w, S w → Q .normal a w) : ∀ fuel, wpEach P md ops Q S fuel listed a
  | 0 => ⟨hr, h⟩
  | _ + 1 => ⟨fun _ => h, by rw [hr]; simp⟩

/-- THE BEGINNING. -/
theorem wp_region_each {id : Nat} {a : Act} {w : World} (hm : P.follows .mixedOrders = true) (hS : S { w with drawn := w.drawn + 1 }) (h : wpEach P .any ops Q S ops.size (Array.replicate ops.size false) a) : (Code.region id ops true).wp P Q a w :=
  wp_region_any hm (wpAny_of_each _ _ _ _ hS h)
end
end Go.Proofs.YtbjeaebgnnljhaaDoor
