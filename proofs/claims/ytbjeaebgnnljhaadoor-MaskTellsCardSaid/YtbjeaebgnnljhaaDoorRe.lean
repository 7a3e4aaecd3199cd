/- WALKS: the reference's All, Lowest. -/
import Derived.Test.YtbjeaebgnnljhaaDoorRd
namespace Go.Proofs.YtbjeaebgnnljhaaDoor
open Go.RowKit Go.Shelf
set_option maxHeartbeats 1000000
set_option maxRecDepth 100000

theorem rAll_bad (n : Int) (hn : n < 0 ∨ 256 < n) (w : World) : Calls Tryd.prog 14 #[.int .i64 n] w fun e w' => e = .returned (.tuple #[mv mk0, .int .i64 1]) ∧ Below w.heap.size w w' := by
  rcases hn with hn | hn
  · go_enter Tryd.func14, Tryd.ntmps14
    go_wp2
    exact bodyPost_ret (v := .tuple #[mv mk0, .int .i64 1]) (by simp [results, Tryd.results14, go_sem]; rfl) rfl ⟨rfl, by repeat (first | exact Below.refl _ _ | exact Nat.le_refl _ | refine Below.drew ?_ | refine Below.alloc ?_ ?_ _ | refine Below.setCell ?_ ?_ _ | refine size_alloc_le _ _ _ ?_)⟩
  · have h0 : 0 ≤ n := by omega
    go_enter Tryd.func14, Tryd.ntmps14
    go_wp2
    exact bodyPost_ret (v := .tuple #[mv mk0, .int .i64 1]) (by simp [results, Tryd.results14, go_sem]; rfl) rfl ⟨rfl, by repeat (first | exact Below.refl _ _ | exact Nat.le_refl _ | refine Below.drew ?_ | refine Below.alloc ?_ ?_ _ | refine Below.setCell ?_ ?_ _ | refine size_alloc_le _ _ _ ?_)⟩

theorem rAll_ok (n : Nat) (h1 : n ≤ 256) (w : World) : Calls Tryd.prog 14 #[.int .i64 (n : Int)] w fun e w' => e = .returned (.tuple #[mv (makeM (coll (fun _ => true) n)), .int .i64 0]) ∧ Below w.heap.size w w' := by
  obtain ⟨i0, hi, hz0, hz1, hz2⟩ := info_parts Tryd.info3
  generalize hf : (fun _ : Nat => true) = f
  have HF := Lib.hid hf
  clear hf
  go_enter Tryd.func14, Tryd.ntmps14
  go_wp2
  go_loopw [4, 5] (fun v i wr => ∃ k : Nat, k ≤ n ∧ i = .int .i64 k ∧ wr.ownsRow w.heap.size 3 1 v (coll f k).length ((coll f k).map (Value.int .i64)) ∧ Below w.heap.size w wr ∧ Blk wr w.heap.size #[.int .u64 0, .int .u64 0, .int .u64 0, .int .u64 0] 24) (fun _ i _ => n - (intOf i).toNat)
  case atStart =>
    exact ⟨0, by omega, rfl, World.ownsRow_nil _ _ _ _, (Below.refl _ _).alloc (Nat.le_refl _) _, Blk.new w _ 24⟩
  case round =>
    obtain ⟨k, hk, rfl, hrow, hb, h0⟩ := hrel
    have hlen := coll_len f k
    have HL := Lib.hid hlen
    have H0 := Lib.hid (And.intro hb h0)
    have HR := Lib.hid hrow
    clear hb h0 hrow hlen
    by_cases hlt : k < n
    · have HC := Lib.hid (coll_yes (f := f) (k := k) (by rw [← HF.out]))
      have hki : (k : Int) < (n : Int) := by omega
      go_wp2_with (at_builtin; refine wpList_append_own _ rfl _ _ 25 rfl w.heap.size 3 i0 (.int .i64 0) 1 8 Tryd.underlying25 hi hz0 hz1 hz2 rfl (by decide) _ _ _ rfl (HR.out.alloc _) ⟨wr.heap.size, 0, none⟩ 1 1 [.int .i64 (k : Int)] rfl rfl (cell_one_new _ _ _) (by simp [Value.oneCell']) (by have := HL.out; unfold maxLen; omega) (by have := HL.out; omega) (by have := H0.out.1.size; simp; omega) ?_; intro v' w2 hown' hgrow _)
      go_roundw
      case rel => exact ⟨k + 1, by omega, by go_num, by rw [HC.out]; simpa using hown', row_grown H0.out.1 H0.out.1.size (Below.refl _ _) HR.out hgrow, blk_grown H0.out.2 (by decide) (Below.refl _ _) HR.out hgrow⟩
      case measure => simp [intOf]; omega
    · obtain rfl : k = n := by omega
      have hlt' : ¬ (k : Int) < (k : Int) := by omega
      go_wp2_with (go_at_call 37; refine (Make_any (coll f k) _ (Nat.le_trans HL.out (by omega)) _ (ints_of_row HR.out)).mono ?_; rintro e w1 ⟨rfl, hb⟩; obtain ⟨q0, q1, q2, q3, r0, r1, r2, r3⟩ := (H0.out.2.below hb H0.out.2.lt).all4; dsimp only [mv]; have HBB := Lib.hid hb; clear hb)
      have h9 := (H0.out.2.below HBB.out H0.out.2.lt).set4 (.int .u64 (makeM (coll f k)).1) (.int .u64 (makeM (coll f k)).2.1) (.int .u64 (makeM (coll f k)).2.2.1) (.int .u64 (makeM (coll f k)).2.2.2)
      refine bodyPost_ret (v := .tuple #[mv (makeM (coll f k)), .int .i64 0]) ?_ rfl ⟨rfl, ?_⟩
      · simp [results, Tryd.results14, go_sem, h9.cell 0 _ rfl, h9.cell 1 _ rfl, h9.cell 2 _ rfl, h9.cell 3 _ rfl]; rfl
      · have hW : Below w.heap.size w w1 := H0.out.1.trans (HBB.out.mono H0.out.1.size)
        exact (((hW.setCell (by simp) _).setCell (by simp) _).setCell (by simp) _).setCell (by simp) _

theorem rLow_neg (m : MK) (hm : mok m) (n : Int) (hn : n < 0) (w : World) : Calls Tryd.prog 28 #[mv m, .int .i64 n] w fun e w' => e = .returned (.tuple #[mv mk0, .int .i64 1]) ∧ Below w.heap.size w w' := by
  have HM := Lib.hid hm
  clear hm
  have hk := Blk.new (w.alloc (.cells #[.int .u64 m.1, .int .u64 m.2.1, .int .u64 m.2.2.1, .int .u64 m.2.2.2] 24)) #[.int .u64 0, .int .u64 0, .int .u64 0, .int .u64 0] 24
  rw [World.size_alloc] at hk
  have HK := Lib.hid hk
  clear hk
  unfold mv
  go_enter Tryd.func28, Tryd.ntmps28
  go_wp2_with (go_at_call 15; refine (rList_any m HM.out _).mono ?_; rintro e w1 ⟨v, rfl, hv, hb⟩; obtain ⟨q0, q1, q2, q3, r0, r1, r2, r3⟩ := (HK.out.below hb HK.out.lt).all4; have HBB := Lib.hid hb; clear hb)
  have h9 := (HK.out.below HBB.out HK.out.lt).set4 (.int .u64 0) (.int .u64 0) (.int .u64 0) (.int .u64 0)
  refine bodyPost_ret (v := .tuple #[mv mk0, .int .i64 1]) ?_ rfl ⟨rfl, ?_⟩
  · simp [results, Tryd.results28, go_sem, h9.cell 0 _ rfl, h9.cell 1 _ rfl, h9.cell 2 _ rfl, h9.cell 3 _ rfl]; rfl
  · have hW : Below w.heap.size w w1 := (((Below.refl _ w).alloc (Nat.le_refl _) _).alloc (by simp) _).trans (HBB.out.mono (by simp; omega))
    exact (((hW.setCell (by simp) _).setCell (by simp) _).setCell (by simp) _).setCell (by simp) _
theorem rLow_few (m : MK) (hm : mok m) (n : Int) (h0 : 0 ≤ n) (hn : ((coll (has m) 256).length : Int) < n) (w : World) : Calls Tryd.prog 28 #[mv m, .int .i64 n] w fun e w' => e = .returned (.tuple #[mv mk0, .int .i64 12]) ∧ Below w.heap.size w w' := by
  have hcl := coll_len (has m) 256
  have HM := Lib.hid hm
  clear hm
  have hk := Blk.new (w.alloc (.cells #[.int .u64 m.1, .int .u64 m.2.1, .int .u64 m.2.2.1, .int .u64 m.2.2.2] 24)) #[.int .u64 0, .int .u64 0, .int .u64 0, .int .u64 0] 24
  rw [World.size_alloc] at hk
  have HK := Lib.hid hk
  clear hk
  unfold mv
  go_enter Tryd.func28, Tryd.ntmps28
  go_wp2_with (go_at_call 15; refine (rList_any m HM.out _).mono ?_; rintro e w1 ⟨v, rfl, hv, hb⟩; obtain ⟨p, cap, rfl, -⟩ := hv.shp; obtain ⟨q0, q1, q2, q3, r0, r1, r2, r3⟩ := (HK.out.below hb HK.out.lt).all4; have HBB := Lib.hid hb; clear hb)
  have h9 := (HK.out.below HBB.out HK.out.lt).set4 (.int .u64 0) (.int .u64 0) (.int .u64 0) (.int .u64 0)
  refine bodyPost_ret (v := .tuple #[mv mk0, .int .i64 12]) ?_ rfl ⟨rfl, ?_⟩
  · simp [results, Tryd.results28, go_sem, h9.cell 0 _ rfl, h9.cell 1 _ rfl, h9.cell 2 _ rfl, h9.cell 3 _ rfl]; rfl
  · have hW : Below w.heap.size w w1 := (((Below.refl _ w).alloc (Nat.le_refl _) _).alloc (by simp) _).trans (HBB.out.mono (by simp; omega))
    exact (((hW.setCell (by simp) _).setCell (by simp) _).setCell (by simp) _).setCell (by simp) _
theorem take_ints {W : World} {g cap n k : Nat} {cur : Array Value} {e : TypeId} {xs : List Int} (hgb : W.heap[g]? = some (.cells cur e (0, 0))) (htk : cur.toList.take xs.length = xs.map (Value.int .i64)) (hn : n ≤ xs.length) (hk : k = n) : IntsAt W (.slice (some ⟨g, 0, none⟩) k cap) (xs.take n) := by
  subst hk
  refine .inr ⟨g, 0, cap, by simp; omega, (Array.getElem?_eq_some_iff.1 hgb).1, fun j hj => ?_⟩
  have hj' : j < xs.length := by have := hj; simp at this; omega
  rw [Nat.zero_add]
  have e : cur.toList[j]? = some (.int .i64 xs[j]) := by
    have : (cur.toList.take xs.length)[j]? = (xs.map (Value.int .i64))[j]? := by rw [htk]
    rw [List.getElem?_take_of_lt hj'] at this
    rw [this]; simp [hj']
  have e2 : cur[j]? = some (.int .i64 xs[j]) := by simpa using e
  simp [World.cell?, hgb, e2]
theorem rLow_ok (m : MK) (hm : mok m) (n : Nat) (hn : n ≤ (coll (has m) 256).length) (w : World) : Calls Tryd.prog 28 #[mv m, .int .i64 (n : Int)] w fun e w' => e = .returned (.tuple #[mv (makeM ((coll (has m) 256).take n)), .int .i64 0]) ∧ Below w.heap.size w w' := by
  have hcl := coll_len (has m) 256
  have HM := Lib.hid hm
  clear hm
  have hk := Blk.new (w.alloc (.cells #[.int .u64 m.1, .int .u64 m.2.1, .int .u64 m.2.2.1, .int .u64 m.2.2.2] 24)) #[.int .u64 0, .int .u64 0, .int .u64 0, .int .u64 0] 24
  rw [World.size_alloc] at hk
  have HK := Lib.hid hk
  clear hk
  generalize hxs : coll (has m) 256 = xs at hn hcl
  have HXS := Lib.hid hxs
  clear hxs
  generalize hM : makeM (xs.take n) = M
  have HMK := Lib.hid hM
  clear hM
  unfold mv
  go_enter Tryd.func28, Tryd.ntmps28
  go_wp2_with fail
  refine (rList_row m HM.out _).mono ?_
  rintro e w1 ⟨v, rfl, hr, hb⟩
  rw [HXS.out] at hr
  have hlt2 := (HK.out.below hb HK.out.lt).lt
  have HK1 := Lib.hid (HK.out.below hb HK.out.lt)
  have hW : Below w.heap.size w w1 := (((Below.refl _ w).alloc (Nat.le_refl _) _).alloc (by simp) _).trans (hb.mono (by simp; omega))
  have HW := Lib.hid hW
  rcases hr.2 with ⟨rfl, hn0⟩ | ⟨g, cap, cur, rfl, -, hgb, hle, hcm, hsz, htk⟩
  · obtain rfl : xs = [] := List.eq_nil_of_length_eq_zero hn0
    obtain rfl : n = 0 := by simpa using hn
    clear hr hb hW hn0 hn hcl hlt2
    have hmk := Make_any [] (.slice none 0 0) (by simp) w1 (.inl ⟨rfl, rfl⟩)
    rw [show makeM [] = M from by rw [← HMK.out, List.take_nil]] at hmk
    have HMC := Lib.hid hmk
    clear hmk
    go_wp2_with (go_at_call 37; refine HMC.out.mono ?_; rintro e w2 ⟨rfl, hb⟩; obtain ⟨q0, q1, q2, q3, r0, r1, r2, r3⟩ := (HK1.out.below hb HK1.out.lt).all4; dsimp only [mv]; have HBB := Lib.hid hb; clear hb)
    have h9 := (HK1.out.below HBB.out HK1.out.lt).set4 (.int .u64 M.1) (.int .u64 M.2.1) (.int .u64 M.2.2.1) (.int .u64 M.2.2.2)
    refine bodyPost_ret (v := .tuple #[mv M, .int .i64 0]) ?_ rfl ⟨rfl, ?_⟩
    · simp [results, Tryd.results28, go_sem, h9.cell 0 _ rfl, h9.cell 1 _ rfl, h9.cell 2 _ rfl, h9.cell 3 _ rfl]; rfl
    · have hW : Below w.heap.size w w2 := HW.out.trans (HBB.out.mono HW.out.size)
      exact (((hW.setCell (by simp) _).setCell (by simp) _).setCell (by simp) _).setCell (by simp) _
  · have HV := Lib.hid (take_ints (cap := cap) hgb (by simpa using htk) hn rfl)
    have hcap : n ≤ cap := by omega
    have hlen : xs.length ≤ 140737488355328 := by omega
    have HL := Lib.hid hlen
    have HN := Lib.hid hn
    clear hr hb hW hgb htk hsz hlt2 hlen hcl
    unfold maxLen at hcm
    have hnn : (0 : Int) ≤ (n : Int) := Int.natCast_nonneg _
    have hnx : ¬ ((xs.length : Nat) : Int) < (n : Int) := by omega
    go_wp2_with (go_at_call 37; refine (Make_any _ _ (by have := HL.out; simp; omega) _ HV.out).mono ?_; rintro e w2 ⟨rfl, hb⟩; rw [HMK.out]; obtain ⟨q0, q1, q2, q3, r0, r1, r2, r3⟩ := (HK1.out.below hb HK1.out.lt).all4; dsimp only [mv]; have HBB := Lib.hid hb; clear hb)
    have h9 := (HK1.out.below HBB.out HK1.out.lt).set4 (.int .u64 M.1) (.int .u64 M.2.1) (.int .u64 M.2.2.1) (.int .u64 M.2.2.2)
    refine bodyPost_ret (v := .tuple #[mv M, .int .i64 0]) ?_ rfl ⟨rfl, ?_⟩
    · simp [results, Tryd.results28, go_sem, h9.cell 0 _ rfl, h9.cell 1 _ rfl, h9.cell 2 _ rfl, h9.cell 3 _ rfl]; rfl
    · have hW : Below w.heap.size w w2 := HW.out.trans (HBB.out.mono HW.out.size)
      exact (((hW.setCell (by simp) _).setCell (by simp) _).setCell (by simp) _).setCell (by simp) _

/-- What the reference's Lowest, All, answer. -/
def rLowRes (m : MK) (n : Int) : MK × Int := if n < 0 then (mk0, 1) else if ((coll (has m) 256).length : Int) < n then (mk0, 12) else (makeM ((coll (has m) 256).take n.toNat), 0)
theorem rLow_any (m : MK) (hm : mok m) (n : Int) (w : World) : Calls Tryd.prog 28 #[mv m, .int .i64 n] w fun e w' => e = .returned (.tuple #[mv (rLowRes m n).1, .int .i64 (rLowRes m n).2]) ∧ Below w.heap.size w w' := by
  unfold rLowRes
  by_cases h : n < 0
  · rw [if_pos h]; exact rLow_neg m hm n h w
  · rw [if_neg h]
    by_cases h2 : ((coll (has m) 256).length : Int) < n
    · rw [if_pos h2]; exact rLow_few m hm n (by omega) h2 w
    · rw [if_neg h2]
      obtain ⟨k, rfl⟩ : ∃ k : Nat, n = k := ⟨n.toNat, by omega⟩
      exact rLow_ok m hm k (by omega) w
def rAllRes (n : Int) : MK × Int := if 0 ≤ n ∧ n ≤ 256 then (makeM (coll (fun _ => true) n.toNat), 0) else (mk0, 1)
theorem rAll_any (n : Int) (w : World) : Calls Tryd.prog 14 #[.int .i64 n] w fun e w' => e = .returned (.tuple #[mv (rAllRes n).1, .int .i64 (rAllRes n).2]) ∧ Below w.heap.size w w' := by
  unfold rAllRes
  by_cases h : 0 ≤ n ∧ n ≤ 256
  · rw [if_pos h]
    obtain ⟨k, rfl⟩ : ∃ k : Nat, n = k := ⟨n.toNat, by omega⟩
    exact rAll_ok k (by omega) w
  · rw [if_neg h]; exact rAll_bad n (by omega) w
end Go.Proofs.YtbjeaebgnnljhaaDoor
