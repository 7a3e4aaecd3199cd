/- PLAIN: the least cores of a mask and the others. -/
import Derived.Test.YtbjeaebgnnljhaaDoorWn
namespace Go.Proofs.YtbjeaebgnnljhaaDoor

/-- The cores of a mask, rising. -/
def coreN (m : MK) : List Nat := (List.range 256).filter (has m)
theorem upTo_coreN (m : MK) : (upTo m 256).map (fun x => x.1) = coreN m := by
  unfold upTo coreN
  rw [List.map_filterMap]
  have e : ∀ l : List Nat, (∀ c ∈ l, c < 256) → List.filterMap (fun c => Option.map (fun x : C256 => x.1) (if h : c < 256 then if has m c = true then some ⟨c, h⟩ else none else none)) l = l.filter (has m) := by
    intro l
    induction l with
    | nil => intro _; rfl
    | cons c l ih =>
      intro h
      have hc : c < 256 := h c (by simp)
      have hi := ih fun x hx => h x (by simp [hx])
      cases hh : has m c with
      | true =>
        rw [List.filterMap_cons_some (b := c) (by simp [hc, hh]), List.filter_cons_of_pos (by simpa using hh), hi]
      | false =>
        rw [List.filterMap_cons_none (by simp [hc, hh]), List.filter_cons_of_neg (by simpa using hh), hi]
  exact e _ fun c hc => by simpa using hc
theorem coreInts_coreN (m : MK) : coreInts m = (coreN m).map fun c => ((c : Nat) : Int) := by
  rw [← upTo_coreN, coreInts, List.map_map]; rfl
theorem coreN_length (m : MK) : (coreN m).length = (upTo m 256).length := by rw [← upTo_coreN, List.length_map]
theorem coreN_sorted (m : MK) : (coreN m).Pairwise (· < ·) := List.Pairwise.filter _ List.pairwise_lt_range
theorem mem_coreN (m : MK) (c : Nat) : c ∈ coreN m ↔ has m c = true := by
  simp only [coreN, List.mem_filter, List.mem_range]
  exact ⟨fun h => h.2, fun h => ⟨has_lt h, h⟩⟩
theorem coreN_congr {m m' : MK} (h : ∀ c, c < 256 → has m c = has m' c) : coreN m = coreN m' :=
  List.filter_congr fun c hc => h c (by simpa using hc)

theorem has_lowM (l : List C256) (c : Nat) : has (lowM l) c = decide (c ∈ l.map fun x => x.1) := by
  have key : ∀ (l : List C256) (m : MK), has (l.foldl (fun m x => withC m x.1) m) c = (has m c || decide (c ∈ l.map fun x => x.1)) := by
    intro l
    induction l with
    | nil => intro m; simp
    | cons x l ih =>
      intro m
      rw [List.foldl_cons, ih, has_withC _ x.2, Bool.or_assoc]
      congr 1
      simp only [List.map_cons, List.mem_cons, Bool.decide_or]
  rw [lowM, key, has_mk0, Bool.false_or]

theorem filter_sub {L p s : List Nat} (hL : L = p ++ s) (hs : L.Pairwise (· < ·)) : L.filter (fun c => decide (c ∈ p)) = p ∧ L.filter (fun c => !decide (c ∈ p)) = s := by
  subst hL
  have hd : ∀ c ∈ s, c ∉ p := fun c hc hp => by
    have := (List.pairwise_append.1 hs).2.2 c hp c hc
    omega
  constructor
  · rw [List.filter_append, List.filter_eq_self.2 (by simp), List.filter_eq_nil_iff.2 (by simpa using hd), List.append_nil]
  · rw [List.filter_append, List.filter_eq_nil_iff.2 (by simp), List.filter_eq_self.2 (by simpa using hd), List.nil_append]

theorem low_take (m : MK) (n : Nat) : coreN (lowM ((upTo m 256).take n)) = (coreN m).take n := by
  have e : ((upTo m 256).take n).map (fun x => x.1) = (coreN m).take n := by rw [List.map_take, upTo_coreN]
  have h : coreN (lowM ((upTo m 256).take n)) = (coreN m).filter fun c => decide (c ∈ (coreN m).take n) := by
    show (List.range 256).filter _ = ((List.range 256).filter (has m)).filter _
    rw [List.filter_filter]
    apply List.filter_congr
    intro c _
    rw [has_lowM, e]
    cases hh : decide (c ∈ (coreN m).take n) with
    | false => rfl
    | true => rw [(mem_coreN m c).1 (List.mem_of_mem_take (by simpa using hh))]; rfl
  rw [h]
  exact (filter_sub (List.take_append_drop n (coreN m)).symm (coreN_sorted m)).1
theorem low_drop (m : MK) (n : Nat) : coreN (minusM m (lowM ((upTo m 256).take n))) = (coreN m).drop n := by
  have e : ((upTo m 256).take n).map (fun x => x.1) = (coreN m).take n := by rw [List.map_take, upTo_coreN]
  have h : coreN (minusM m (lowM ((upTo m 256).take n))) = (coreN m).filter fun c => !decide (c ∈ (coreN m).take n) := by
    show (List.range 256).filter _ = ((List.range 256).filter (has m)).filter _
    rw [List.filter_filter]
    apply List.filter_congr
    intro c _
    rw [has_minusM, has_lowM, e, Bool.and_comm]
  rw [h]
  exact (filter_sub (List.take_append_drop n (coreN m)).symm (coreN_sorted m)).2
theorem low_minus (m : MK) (n : Nat) : minusM (lowM ((upTo m 256).take n)) m = mk0 := by
  refine mk_ext (mok_minusM _ _) mok_mk0 fun c _ => ?_
  rw [has_minusM, has_mk0, has_lowM]
  have e : ((upTo m 256).take n).map (fun x => x.1) = (coreN m).take n := by rw [List.map_take, upTo_coreN]
  rw [e]
  cases hh : decide (c ∈ (coreN m).take n) with
  | false => rfl
  | true => rw [(mem_coreN m c).1 (List.mem_of_mem_take (by simpa using hh))]; rfl
theorem low_last (m : MK) (n : Nat) (h0 : 0 < n) (h1 : n < (coreN m).length) : (coreN m)[n - 1] < (coreN m)[n] :=
  List.pairwise_iff_getElem.1 (coreN_sorted m) (n - 1) n (by omega) h1 (by omega)
end Go.Proofs.YtbjeaebgnnljhaaDoor
