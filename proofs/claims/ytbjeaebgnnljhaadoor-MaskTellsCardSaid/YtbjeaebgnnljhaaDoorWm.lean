/- WALKS: Of, All. -/
import Derived.Test.YtbjeaebgnnljhaaDoorWl
namespace Go.Proofs.YtbjeaebgnnljhaaDoor
open Go.RowKit Go.Shelf
set_option maxHeartbeats 2000000
set_option maxRecDepth 100000

def stepO (m : MK) (c : Int) : Option MK := if 0 ≤ c ∧ c < 256 ∧ hasI m c = false then some (withC m c.toNat) else none
def foldO (l : List Int) : Option MK := l.foldl (fun o c => o.bind fun m => stepO m c) (some mk0)
theorem foldO_snoc (l : List Int) (c : Int) : foldO (l ++ [c]) = (foldO l).bind fun m => stepO m c := by simp [foldO]
theorem foldO_none (l r : List Int) (h : foldO l = none) : foldO (l ++ r) = none := by
  have key : ∀ r : List Int, r.foldl (fun o c => o.bind fun m => stepO m c) none = none := by
    intro r; induction r with
    | nil => rfl
    | cons x r ih => simpa using ih
  unfold foldO at h ⊢
  rw [List.foldl_append, h]; exact key r
theorem mok_foldO {l : List Int} {m : MK} (h : foldO l = some m) : mok m := by
  have key : ∀ (l : List Int) (o : Option MK), (∀ m, o = some m → mok m) → ∀ m, l.foldl (fun o c => o.bind fun m => stepO m c) o = some m → mok m := by
    intro l; induction l with
    | nil => exact fun o h m e => h m e
    | cons x l ih =>
      refine fun o h => ih _ fun m e => ?_
      cases o with
      | none => cases e
      | some m' =>
        simp only [Option.bind_some, stepO] at e
        split at e
        · cases e; exact mok_withC _ _
        · cases e
  exact key l (some mk0) (fun m e => by cases e; exact mok_mk0) m h
/-- mask.Of, of any list. -/
def ofRes (l : List Int) : MK × Int := match foldO l with | some m => (m, 0) | none => (mk0, 1)

theorem Of_nil (w : World) : Calls Tryd.prog 11 #[.slice none 0 0] w fun e w' => e = .returned (.tuple #[mv mk0, .int .i64 0]) ∧ Below w.heap.size w w' := by
  unfold mv mk0
  go_enter Tryd.func11, Tryd.ntmps11
  go_wp2
  refine wp_loop_rounds 1 ?_
  rw [rounds_succ]
  go_wp2
  refine bodyPost_ret (v := .tuple #[.agg #[.int .u64 0, .int .u64 0, .int .u64 0, .int .u64 0], .int .i64 0]) (by simp [results, Tryd.results11, go_sem]) rfl ⟨rfl, ?_⟩
  repeat (first | exact Below.refl _ _ | exact Nat.le_refl _ | refine Below.drew ?_ | refine Below.alloc ?_ ?_ _ | refine Below.setCell ?_ ?_ _ | refine size_alloc_le _ _ _ ?_)

/-- Two blocks of Of: the result's and the mask's. -/
structure OInv (w : World) (m : MK) (W : World) : Prop where
  zero : Blk W w.heap.size #[.int .u64 0, .int .u64 0, .int .u64 0, .int .u64 0] 27
  mask : Blk W (w.heap.size + 1) #[.int .u64 m.1, .int .u64 m.2.1, .int .u64 m.2.2.1, .int .u64 m.2.2.2] 27
  below : Below w.heap.size w W
theorem OInv.later {w W W' : World} {m : MK} (h : OInv w m W) (hb : Below W.heap.size W W') : OInv w m W' :=
  ⟨h.zero.below hb h.zero.lt, h.mask.below hb h.mask.lt, h.below.trans (hb.mono h.below.size)⟩
theorem OInv.set {w W : World} {m : MK} (h : OInv w m W) (m' : MK) : OInv w m' ((((W.setCell ⟨w.heap.size + 1, 0, none⟩ (.int .u64 m'.1)).setCell ⟨w.heap.size + 1, 1, none⟩ (.int .u64 m'.2.1)).setCell ⟨w.heap.size + 1, 2, none⟩ (.int .u64 m'.2.2.1)).setCell ⟨w.heap.size + 1, 3, none⟩ (.int .u64 m'.2.2.2)) :=
  ⟨h.zero.far4 (by omega) _ _ _ _, h.mask.set4 _ _ _ _, below_set4 h.below (by omega) _ _ _ _⟩
theorem OInv.new (w : World) : OInv w mk0 ((w.alloc (.cells #[.int .u64 0, .int .u64 0, .int .u64 0, .int .u64 0] 27)).alloc (.cells #[.int .u64 0, .int .u64 0, .int .u64 0, .int .u64 0] 27)) := by
  refine ⟨(Blk.new w _ 27).alloc _, ?_, ((Below.refl _ w).alloc (Nat.le_refl _) _).alloc (by simp) _⟩
  have h := Blk.new (w.alloc (.cells #[.int .u64 0, .int .u64 0, .int .u64 0, .int .u64 0] 27)) #[.int .u64 0, .int .u64 0, .int .u64 0, .int .u64 0] 27
  rwa [World.size_alloc] at h

theorem Of_some (xs : List Int) (b off cap : Nat) (hlen : xs.length ≤ 140737488355328) (w : World) (hb : b < w.heap.size) (hc : ∀ j (h : j < xs.length), w.cell? ⟨b, off + j, none⟩ = some (.int .i64 xs[j])) :
    Calls Tryd.prog 11 #[.slice (some ⟨b, off, none⟩) xs.length cap] w fun e w' => e = .returned (.tuple #[mv (ofRes xs).1, .int .i64 (ofRes xs).2]) ∧ Below w.heap.size w w' := by
  have HC := Lib.hid hc
  clear hc
  go_enter Tryd.func11, Tryd.ntmps11
  go_wp2
  go_loopw [6, 9, 10, 11, 12, 13, 14, 15, 16, 17, 18, 19, 20, 21, 22, 23, 24, 25] (fun _ i _ _ _ _ _ _ _ _ _ _ _ _ _ _ _ _ wr => ∃ (k : Nat) (m : MK), k ≤ xs.length ∧ i = .int .i64 k ∧ foldO (xs.take k) = some m ∧ OInv w m wr)
    (fun _ i _ _ _ _ _ _ _ _ _ _ _ _ _ _ _ _ _ => xs.length - (intOf i).toNat)
  case atStart => exact ⟨0, mk0, Nat.zero_le _, rfl, rfl, OInv.new w⟩
  case round =>
    obtain ⟨k, m, hk, rfl, hf, hI⟩ := hrel
    have HMO := Lib.hid (mok_foldO hf)
    obtain ⟨c0, c1, c2, c3, f0, f1, f2, f3⟩ := hI.mask.all4
    obtain ⟨z0, z1, z2, z3, y0, y1, y2, y3⟩ := hI.zero.all4
    have l0 := hI.zero.lt
    have l1 := hI.mask.lt
    by_cases hlt : k < xs.length
    · have hcell : wr.cell? ⟨b, off + k, none⟩ = some (.int .i64 xs[k]) := (hI.below.cell (p := ⟨b, off + k, none⟩) hb).trans (HC.out k hlt)
      obtain ⟨x, hx⟩ : ∃ x, xs[k] = x := ⟨_, rfl⟩
      rw [hx] at hcell
      have hst : foldO (xs.take (k + 1)) = stepO m x := by
        rw [List.take_succ_eq_append_getElem hlt, foldO_snoc, hf, hx]; rfl
      have hpre : foldO xs = foldO (xs.take (k + 1) ++ xs.drop (k + 1)) := by rw [List.take_append_drop]
      have HI := Lib.hid (And.intro hI (And.intro hst hpre))
      clear hI hf hst hpre hx
      by_cases hcore : 0 ≤ x ∧ x < 256
      · have HC1 : Hid ((decide (0 ≤ x) && decide (x < 256)) = true) := Lib.hid (by simp; exact hcore)
        obtain ⟨hx0, hx1⟩ := hcore
        cases hh : hasI m x with
        | true =>
          have HH := Lib.hid hh
          have HR : Hid (ofRes xs = (mk0, 1)) := Lib.hid (by
            unfold ofRes
            rw [HI.out.2.2, foldO_none _ _ (by rw [HI.out.2.1, stepO, if_neg (by rw [HH.out]; simp)])])
          clear hh
          go_wp2_with (first
            | (go_at_call 34; refine (core_any _ _).mono ?_; rintro e w' ⟨rfl, rfl⟩; rw [HC1.out])
            | (go_at_call 19; refine (Has_any m HMO.out _ _).mono ?_; rintro e w2 ⟨rfl, hb2⟩; rw [HH.out]; obtain ⟨hc2, hf2⟩ := bcell hb2))
          have h9 := (HI.out.1.later hb2).zero.set4 (.int .u64 0) (.int .u64 0) (.int .u64 0) (.int .u64 0)
          rw [HR.out]
          exact bodyPost_ret (v := .tuple #[.agg #[.int .u64 0, .int .u64 0, .int .u64 0, .int .u64 0], .int .i64 1]) (by simp [results, Tryd.results11, go_sem, h9.cell 0 _ rfl, h9.cell 1 _ rfl, h9.cell 2 _ rfl, h9.cell 3 _ rfl]) rfl ⟨rfl, below_set4 (HI.out.1.later hb2).below (Nat.le_refl _) _ _ _ _⟩
        | false =>
          have HH := Lib.hid hh
          have HR : Hid (foldO (xs.take (k + 1)) = some (withC m x.toNat)) := Lib.hid (by rw [HI.out.2.1, stepO, if_pos ⟨hx0, hx1, HH.out⟩])
          clear hh
          go_wp2_with (first
            | (go_at_call 34; refine (core_any _ _).mono ?_; rintro e w' ⟨rfl, rfl⟩; rw [HC1.out])
            | (go_at_call 19; refine (Has_any m HMO.out _ _).mono ?_; rintro e w2 ⟨rfl, hb2⟩; rw [HH.out]; obtain ⟨hc2, hf2⟩ := bcell hb2; have hz2 : w.heap.size + 1 < w2.heap.size := Nat.lt_of_lt_of_le l1 hb2.size)
            | (go_at_call 35; refine (with_any m HMO.out _ hx0 hx1 _).mono ?_; rintro e w3 ⟨rfl, hb3⟩; dsimp only [mv]; obtain ⟨hc3, hf3⟩ := bcell hb3))
          go_roundw
          case rel =>
            exact ⟨k + 1, withC m x.toNat, by omega, by simp, HR.out, ((HI.out.1.later hb2).later hb3).set _⟩
          case measure => simp [intOf]; omega
      · have HC1 : Hid ((decide (0 ≤ x) && decide (x < 256)) = false) := Lib.hid (by simp; omega)
        have HR : Hid (ofRes xs = (mk0, 1)) := Lib.hid (by
            unfold ofRes
            rw [HI.out.2.2, foldO_none _ _ (by rw [HI.out.2.1, stepO, if_neg (by omega)])])
        go_wp2_with (first
            | (go_at_call 34; refine (core_any _ _).mono ?_; rintro e w' ⟨rfl, rfl⟩; rw [HC1.out]))
        have h9 := (HI.out.1).zero.set4 (.int .u64 0) (.int .u64 0) (.int .u64 0) (.int .u64 0)
        rw [HR.out]
        exact bodyPost_ret (v := .tuple #[.agg #[.int .u64 0, .int .u64 0, .int .u64 0, .int .u64 0], .int .i64 1]) (by simp [results, Tryd.results11, go_sem, h9.cell 0 _ rfl, h9.cell 1 _ rfl, h9.cell 2 _ rfl, h9.cell 3 _ rfl]) rfl ⟨rfl, below_set4 (HI.out.1).below (Nat.le_refl _) _ _ _ _⟩
    · obtain rfl : k = xs.length := by omega
      rw [List.take_length] at hf
      have HR : Hid (ofRes xs = (m, 0)) := Lib.hid (by unfold ofRes; rw [hf])
      have HI := Lib.hid hI
      clear hf hI
      go_wp2
      have h9 := (HI.out).zero.set4 (.int .u64 (m).1) (.int .u64 (m).2.1) (.int .u64 (m).2.2.1) (.int .u64 (m).2.2.2)
      rw [HR.out]
      exact bodyPost_ret (v := .tuple #[.agg #[.int .u64 (m).1, .int .u64 (m).2.1, .int .u64 (m).2.2.1, .int .u64 (m).2.2.2], .int .i64 0]) (by simp [results, Tryd.results11, go_sem, h9.cell 0 _ rfl, h9.cell 1 _ rfl, h9.cell 2 _ rfl, h9.cell 3 _ rfl]) rfl ⟨rfl, below_set4 (HI.out).below (Nat.le_refl _) _ _ _ _⟩

/-- mask.Of, of any list. -/
theorem Of_any (xs : List Int) (v : Value) (hlen : xs.length ≤ 140737488355328) (w : World) (hv : IntsAt w v xs) :
    Calls Tryd.prog 11 #[v] w fun e w' => e = .returned (.tuple #[mv (ofRes xs).1, .int .i64 (ofRes xs).2]) ∧ Below w.heap.size w w' := by
  rcases hv with ⟨rfl, rfl⟩ | ⟨b, off, cap, rfl, hb, hc⟩
  · exact Of_nil w
  · exact Of_some xs b off cap hlen w hb hc

theorem All_bad (n : Int) (hn : n < 0 ∨ 256 < n) (w : World) : Calls Tryd.prog 13 #[.int .i64 n] w fun e w' => e = .returned (.tuple #[mv mk0, .int .i64 1]) ∧ Below w.heap.size w w' := by
  unfold mv mk0
  rcases hn with h | h
  all_goals
    go_enter Tryd.func13, Tryd.ntmps13
    go_wp2
    refine bodyPost_ret (v := .tuple #[.agg #[.int .u64 0, .int .u64 0, .int .u64 0, .int .u64 0], .int .i64 1]) (by simp [results, Tryd.results13, go_sem]) rfl ⟨rfl, ?_⟩
    repeat (first | exact Below.refl _ _ | exact Nat.le_refl _ | refine Below.drew ?_ | refine Below.alloc ?_ ?_ _ | refine Below.setCell ?_ ?_ _ | refine size_alloc_le _ _ _ ?_)
/-- The mask of the first ones. -/
def firstN : Nat → MK
  | 0 => mk0
  | k + 1 => withC (firstN k) k
theorem mok_firstN : ∀ k, mok (firstN k)
  | 0 => mok_mk0
  | _ + 1 => mok_withC _ _
theorem All_ok (n : Int) (h0 : 0 ≤ n) (h1 : n ≤ 256) (w : World) : Calls Tryd.prog 13 #[.int .i64 n] w fun e w' => e = .returned (.tuple #[mv (firstN n.toNat), .int .i64 0]) ∧ Below w.heap.size w w' := by
  go_enter Tryd.func13, Tryd.ntmps13
  go_wp2
  go_loopw [5, 14, 15, 16, 17, 18, 19, 20] (fun _ i _ _ _ _ _ _ wr => ∃ k : Nat, (k : Int) ≤ n ∧ i = .int .i64 k ∧ OInv w (firstN k) wr)
    (fun _ i _ _ _ _ _ _ _ => (n - intOf i).toNat)
  case atStart => exact ⟨0, by simpa using h0, rfl, OInv.new w⟩
  case round =>
    obtain ⟨k, hk, rfl, hI⟩ := hrel
    obtain ⟨c0, c1, c2, c3, f0, f1, f2, f3⟩ := hI.mask.all4
    obtain ⟨z0, z1, z2, z3, y0, y1, y2, y3⟩ := hI.zero.all4
    have l0 := hI.zero.lt
    have l1 := hI.mask.lt
    have HI := Lib.hid hI
    clear hI
    by_cases hlt : (k : Int) < n
    · go_wp2_with (go_at_call 35; refine (with_any (firstN k) (mok_firstN k) _ (by omega) (by omega) _).mono ?_; rintro e w3 ⟨rfl, hb3⟩; dsimp only [mv]; obtain ⟨hc3, hf3⟩ := bcell hb3)
      go_roundw
      case rel => exact ⟨k + 1, by omega, by simp, (HI.out.later hb3).set (firstN (k + 1))⟩
      case measure => simp [intOf]; omega
    · obtain rfl : n = k := by omega
      go_wp2
      have h9 := HI.out.zero.set4 (.int .u64 (firstN k).1) (.int .u64 (firstN k).2.1) (.int .u64 (firstN k).2.2.1) (.int .u64 (firstN k).2.2.2)
      exact bodyPost_ret (v := .tuple #[.agg #[.int .u64 (firstN k).1, .int .u64 (firstN k).2.1, .int .u64 (firstN k).2.2.1, .int .u64 (firstN k).2.2.2], .int .i64 0]) (by simp [results, Tryd.results13, go_sem, h9.cell 0 _ rfl, h9.cell 1 _ rfl, h9.cell 2 _ rfl, h9.cell 3 _ rfl]) rfl ⟨rfl, below_set4 HI.out.below (Nat.le_refl _) _ _ _ _⟩
/-- mask.All, of any number. -/
def allRes (n : Int) : MK × Int := if 0 ≤ n ∧ n ≤ 256 then (firstN n.toNat, 0) else (mk0, 1)
theorem All_any (n : Int) (w : World) : Calls Tryd.prog 13 #[.int .i64 n] w fun e w' => e = .returned (.tuple #[mv (allRes n).1, .int .i64 (allRes n).2]) ∧ Below w.heap.size w w' := by
  unfold allRes
  by_cases h : 0 ≤ n ∧ n ≤ 256
  · rw [if_pos h]; exact All_ok n h.1 h.2 w
  · rw [if_neg h]; exact All_bad n (by omega) w
end Go.Proofs.YtbjeaebgnnljhaaDoor
