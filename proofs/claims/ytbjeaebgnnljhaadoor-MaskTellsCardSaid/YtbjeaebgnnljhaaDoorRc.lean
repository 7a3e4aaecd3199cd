/- WALKS: the reference's List. -/
import Derived.Test.YtbjeaebgnnljhaaDoorWi
import Derived.Test.YtbjeaebgnnljhaaDoorRb
namespace Go.Proofs.YtbjeaebgnnljhaaDoor
open Go.RowKit Go.Shelf
set_option maxHeartbeats 1000000
set_option maxRecDepth 100000

/-- The numbers below k that f lets by. -/
def coll (f : Nat → Bool) (k : Nat) : List Int := ((List.range k).filter f).map fun c => ((c : Nat) : Int)
theorem coll_yes {f : Nat → Bool} {k : Nat} (h : f k = true) : coll f (k + 1) = coll f k ++ [((k : Nat) : Int)] := by simp [coll, List.range_succ, h]
theorem coll_no {f : Nat → Bool} {k : Nat} (h : f k = false) : coll f (k + 1) = coll f k := by simp [coll, List.range_succ, h]
theorem coll_len (f : Nat → Bool) (k : Nat) : (coll f k).length ≤ k := by
  unfold coll; rw [List.length_map]; exact Nat.le_trans (List.length_filter_le _ _) (by simp)

/-- What an append to a row of the call's own leaves of older memory. -/
theorem row_grown {w0 W W1 W2 : World} {n k : Nat} {e : TypeId} {v : Value} {xs : List Value} {tmp : Obj} (h : Below n w0 W) (hn : n ≤ W.heap.size) (hb : Below W.heap.size W W1) (hr : W1.ownsRow n e 1 v k xs) (hg : (W1.alloc tmp).grownBy W2 v.ownBlock) : Below n w0 W2 := by
  refine ((h.trans (hb.mono hn)).alloc (Nat.le_trans hn hb.size) tmp).grown hg (by have := hb.size; simp; omega) fun j ej => ?_
  rcases hr.2 with ⟨rfl, _⟩ | ⟨g, cap, cur, rfl, hb2, _, _⟩
  · simp [Value.ownBlock] at ej
  · obtain rfl : g = j := by simpa [Value.ownBlock] using ej
    exact hb2
theorem blk_grown {W W1 W2 : World} {n k B : Nat} {e t : TypeId} {v : Value} {xs : List Value} {tmp : Obj} {cs : Array Value} (h : Blk W B cs t) (hte : t ≠ e) (hb : Below W.heap.size W W1) (hr : W1.ownsRow n e 1 v k xs) (hg : (W1.alloc tmp).grownBy W2 v.ownBlock) : Blk W2 B cs t := by
  have h1 := h.below hb h.lt
  exact (h1.alloc tmp).kept hg (h1.not_row hte hr)

theorem rList_row (m : MK) (hm : mok m) (w : World) :
    Calls Tryd.prog 15 #[mv m] w fun e w' => ∃ v, e = .returned v ∧ w'.ownsRow w.heap.size 3 1 v (coll (has m) 256).length ((coll (has m) 256).map (Value.int .i64)) ∧ Below w.heap.size w w' := by
  obtain ⟨i0, hi, hz0, hz1, hz2⟩ := info_parts Tryd.info3
  have HM := Lib.hid hm
  clear hm
  unfold mv
  go_enter Tryd.func15, Tryd.ntmps15
  go_wp2
  go_loopw [3, 4] (fun v i wr => ∃ k : Nat, k ≤ 256 ∧ i = .int .i64 k ∧ wr.ownsRow w.heap.size 3 1 v (coll (has m) k).length ((coll (has m) k).map (Value.int .i64)) ∧ Below w.heap.size w wr ∧ Blk wr w.heap.size #[.int .u64 m.1, .int .u64 m.2.1, .int .u64 m.2.2.1, .int .u64 m.2.2.2] 24) (fun _ i _ => 256 - (intOf i).toNat)
  case atStart =>
    exact ⟨0, by omega, rfl, World.ownsRow_nil _ _ _ _, (Below.refl _ _).alloc (Nat.le_refl _) _, Blk.new w _ 24⟩
  case round =>
    obtain ⟨k, hk, rfl, hrow, hb, h0⟩ := hrel
    obtain ⟨c0, c1, c2, c3, f0, f1, f2, f3⟩ := h0.all4
    have hlen := coll_len (has m) k
    have HL := Lib.hid hlen
    have H0 := Lib.hid (And.intro hb h0)
    have HR := Lib.hid hrow
    clear hb h0 hrow hlen
    by_cases hlt : k < 256
    · cases hh : has m k with
      | true =>
        have HH : Hid (hasI m (k : Int) = true) := Lib.hid (by rw [hasI_nat]; exact hh)
        have HC := Lib.hid (coll_yes hh)
        clear hh
        go_wp2_with (first
          | (go_at_call 20; refine (rHas_any m HM.out _ _).mono ?_; rintro e w1 ⟨rfl, hb⟩; rw [HH.out]; have hrow1 := row_below HR.out hb)
          | (at_builtin; refine wpList_append_own _ rfl _ _ 25 rfl w.heap.size 3 i0 (.int .i64 0) 1 8 Tryd.underlying25 hi hz0 hz1 hz2 rfl (by decide) _ _ _ rfl (hrow1.alloc _) ⟨w1.heap.size, 0, none⟩ 1 1 [.int .i64 (k : Int)] rfl rfl (cell_one_new _ _ _) (by simp [Value.oneCell']) (by have := HL.out; unfold maxLen; omega) (by have := HL.out; omega) (by have := H0.out.1.size; have := hb.size; simp; omega) ?_; intro v' w2 hown' hgrow _))
        go_roundw
        case rel => exact ⟨k + 1, by omega, by go_num, by rw [HC.out]; simpa using hown', row_grown H0.out.1 H0.out.1.size hb hrow1 hgrow, blk_grown H0.out.2 (by decide) hb hrow1 hgrow⟩
        case measure => simp [intOf]; omega
      | false =>
        have HH : Hid (hasI m (k : Int) = false) := Lib.hid (by rw [hasI_nat]; exact hh)
        have HC := Lib.hid (coll_no hh)
        clear hh
        go_wp2_with (go_at_call 20; refine (rHas_any m HM.out _ _).mono ?_; rintro e w1 ⟨rfl, hb⟩; rw [HH.out])
        go_roundw
        case rel => exact ⟨k + 1, by omega, by go_num, by rw [HC.out]; exact row_below HR.out hb, H0.out.1.trans (hb.mono H0.out.1.size), H0.out.2.below hb H0.out.2.lt⟩
        case measure => simp [intOf]; omega
    · obtain rfl : k = 256 := by omega
      go_wp2
      go_ret
      exact ⟨_, rfl, HR.out, H0.out.1⟩
theorem rList_any (m : MK) (hm : mok m) (w : World) :
    Calls Tryd.prog 15 #[mv m] w fun e w' => ∃ v, e = .returned v ∧ IntsAt w' v (coll (has m) 256) ∧ Below w.heap.size w w' :=
  (rList_row m hm w).mono fun _ _ ⟨v, he, hr, hb⟩ => ⟨v, he, ints_of_row hr, hb⟩
end Go.Proofs.YtbjeaebgnnljhaaDoor
