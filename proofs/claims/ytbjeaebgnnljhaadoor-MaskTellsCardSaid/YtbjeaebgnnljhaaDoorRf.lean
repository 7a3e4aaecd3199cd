/- WALKS: the reference's Of. -/
import Derived.Test.YtbjeaebgnnljhaaDoorRd
namespace Go.Proofs.YtbjeaebgnnljhaaDoor
open Go.RowKit Go.Shelf
set_option maxHeartbeats 1000000
set_option maxRecDepth 100000

theorem Blk.drewN {W : World} {B : Nat} {cs : Array Value} {t : TypeId} (h : Blk W B cs t) (n : Nat) : Blk (W.drewN n) B cs t := h
theorem belowD {n : Nat} {w W : World} (h : Below n w W) (k : Nat) : Below n w (W.drewN k) := h.trans ⟨rfl, rfl, rfl, Nat.le_refl _, fun _ _ => rfl⟩
theorem rOf_nil (w : World) : Calls Tryd.prog 12 #[.slice none 0 0] w fun e w' => e = .returned (.tuple #[mv (makeM []), .int .i64 0]) ∧ Below w.heap.size w w' := by
  have hmk := fun w1 => Make_any [] (.slice none 0 0) (by simp) w1 (.inl ⟨rfl, rfl⟩)
  generalize makeM [] = M at hmk
  have HMC := Lib.hid hmk
  clear hmk
  have HK := Lib.hid (Blk.new w #[.int .u64 0, .int .u64 0, .int .u64 0, .int .u64 0] 24)
  go_enter Tryd.func12, Tryd.ntmps12
  go_wp2
  refine wp_loop_rounds 1 ?_
  rw [rounds_succ]
  go_wp2_with (go_at_call 37; refine (HMC.out _).mono ?_; rintro e w2 ⟨rfl, hb⟩; obtain ⟨q0, q1, q2, q3, r0, r1, r2, r3⟩ := (HK.out.below hb HK.out.lt).all4; dsimp only [mv]; have HBB := Lib.hid hb; clear hb)
  have h9 := (HK.out.below HBB.out HK.out.lt).set4 (.int .u64 M.1) (.int .u64 M.2.1) (.int .u64 M.2.2.1) (.int .u64 M.2.2.2)
  refine bodyPost_ret (v := .tuple #[mv M, .int .i64 0]) ?_ rfl ⟨rfl, ?_⟩
  · simp [results, Tryd.results12, go_sem, h9.cell 0 _ rfl, h9.cell 1 _ rfl, h9.cell 2 _ rfl, h9.cell 3 _ rfl]; rfl
  · have hW : Below w.heap.size w w2 := ((Below.refl _ w).alloc (Nat.le_refl _) _).trans (HBB.out.mono (by simp))
    exact (((hW.setCell (by simp) _).setCell (by simp) _).setCell (by simp) _).setCell (by simp) _

/-- A list of cores, none twice (as far as k). -/
def fineTo (xs : List Int) (k : Nat) : Prop := (∀ c ∈ xs.take k, 0 ≤ c ∧ c < 256) ∧ (xs.take k).Nodup
theorem fineTo_succ {xs : List Int} {k : Nat} (h : k < xs.length) (hf : fineTo xs k) (h0 : 0 ≤ xs[k]) (h1 : xs[k] ≤ 255) (hn : xs[k] ∉ xs.take k) : fineTo xs (k + 1) := by
  unfold fineTo
  rw [List.take_succ_eq_append_getElem h]
  refine ⟨fun c hc => ?_, List.nodup_append.2 ⟨hf.2, by simp, ?_⟩⟩
  · rcases List.mem_append.1 hc with hc | hc
    · exact hf.1 c hc
    · obtain rfl : c = xs[k] := by simpa using hc
      omega
  · rintro a ha b hb rfl
    obtain rfl : a = xs[k] := by simpa using hb
    exact hn ha
theorem fineTo_all {xs : List Int} (h : fineTo xs xs.length) : (∀ c ∈ xs, 0 ≤ c ∧ c < 256) ∧ xs.Nodup := by
  unfold fineTo at h; rwa [List.take_length] at h
theorem not_fine_rng {xs : List Int} {k : Nat} (h : k < xs.length) (hb : xs[k] < 0 ∨ 255 < xs[k]) : ¬ ((∀ c ∈ xs, 0 ≤ c ∧ c < 256) ∧ xs.Nodup) := by
  rintro ⟨h1, -⟩
  have := h1 xs[k] (List.getElem_mem h)
  omega
theorem not_fine_dup {xs : List Int} {k : Nat} (h : k < xs.length) (hb : xs[k] ∈ xs.take k) : ¬ ((∀ c ∈ xs, 0 ≤ c ∧ c < 256) ∧ xs.Nodup) := by
  rintro ⟨-, h1⟩
  obtain ⟨j, hj, e⟩ := List.mem_take_iff_getElem.1 hb
  have hjk : j < k := by omega
  exact absurd e (List.pairwise_iff_getElem.1 h1 j k (by omega) h hjk)

open Classical in
noncomputable def rOfRes (xs : List Int) : MK × Int := if (∀ c ∈ xs, 0 ≤ c ∧ c < 256) ∧ xs.Nodup then (makeM xs, 0) else (mk0, 1)

theorem rOf_some (xs : List Int) (b off cap : Nat) (hle : xs.length ≤ cap) (hlen : xs.length ≤ 140737488355328) (w : World) (hb : b < w.heap.size) (hc : ∀ j (h : j < xs.length), w.cell? ⟨b, off + j, none⟩ = some (.int .i64 xs[j])) :
    Calls Tryd.prog 12 #[.slice (some ⟨b, off, none⟩) xs.length cap] w fun e w' => e = .returned (.tuple #[mv (rOfRes xs).1, .int .i64 (rOfRes xs).2]) ∧ Below w.heap.size w w' := by
  have HC := Lib.hid hc
  clear hc
  generalize hR : rOfRes xs = R
  have HR := Lib.hid hR
  clear hR
  go_enter Tryd.func12, Tryd.ntmps12
  go_wp2
  go_loopw [4] (fun i wr => ∃ k : Nat, k ≤ xs.length ∧ i = .int .i64 k ∧ fineTo xs k ∧ Below w.heap.size w wr ∧ Blk wr w.heap.size #[.int .u64 0, .int .u64 0, .int .u64 0, .int .u64 0] 24) (fun i _ => xs.length - (intOf i).toNat)
  case atStart =>
    exact ⟨0, by omega, rfl, ⟨by simp, by simp⟩, (Below.refl _ _).alloc (Nat.le_refl _) _, Blk.new w _ 24⟩
  case round =>
    obtain ⟨k, hk, rfl, hf, hb, h0⟩ := hrel
    have H0 := Lib.hid (And.intro hf (And.intro hb h0))
    clear hf hb h0
    by_cases hlt : k < xs.length
    · have e1 : wr.cell? ⟨b, off + k, none⟩ = some (.int .i64 xs[k]) := (H0.out.2.1.cell (p := ⟨b, off + k, none⟩) hb).trans (HC.out k hlt)
      have hki : (k : Int) < (xs.length : Nat) := by omega
      have hk0 : (0 : Int) ≤ (k : Int) := Int.natCast_nonneg _
      have hkc : k ≤ cap := by omega
      have F1 := Lib.hid (fun h0 h1 hn => fineTo_succ hlt H0.out.1 h0 h1 hn)
      have F2 := Lib.hid (fun h => not_fine_rng hlt h)
      have F3 := Lib.hid (fun h => not_fine_dup hlt h)
      have HI : Hid (∀ wr', Below w.heap.size w wr' → IntsAt wr' (.slice (some ⟨b, off, none⟩) k cap) (xs.take k)) := Lib.hid (fun wr' hb' => .inr ⟨b, off, cap, by simp; omega, Nat.lt_of_lt_of_le hb hb'.size, fun j hj => by
        have hj' : j < xs.length := by have := hj; simp at this; omega
        rw [(hb'.cell (p := ⟨b, off + j, none⟩) hb).trans (HC.out j hj')]; simp⟩)
      generalize hx : xs[k] = x at e1 F1 F2 F3
      have HX := Lib.hid hx
      clear hx
      obtain ⟨q0, q1, q2, q3, r0, r1, r2, r3⟩ := H0.out.2.2.all4
      have hRbad : ∀ (h : ¬ ((∀ c ∈ xs, 0 ≤ c ∧ c < 256) ∧ xs.Nodup)), R = (mk0, 1) := fun h => by rw [← HR.out, rOfRes, if_neg h]
      have HRB := Lib.hid hRbad
      clear hRbad
      by_cases hneg : x < 0
      · have hd : decide (x < 0) = true := by simpa using hneg
        have HRR := Lib.hid (HRB.out (F2.out (Or.inl hneg)))
        go_wp2
        go_quiet (fail)
        go_wp2
        have h9 := (Blk.drewN H0.out.2.2 nq).set4 (.int .u64 0) (.int .u64 0) (.int .u64 0) (.int .u64 0)
        refine bodyPost_ret (v := .tuple #[mv mk0, .int .i64 1]) ?_ rfl ⟨by rw [HRR.out], ?_⟩
        · simp [results, Tryd.results12, go_sem, h9.cell 0 _ rfl, h9.cell 1 _ rfl, h9.cell 2 _ rfl, h9.cell 3 _ rfl]; rfl
        · exact ((((belowD H0.out.2.1 nq).setCell (by simp) _).setCell (by simp) _).setCell (by simp) _).setCell (by simp) _
      · have hd : decide (x < 0) = false := by simpa using hneg
        have hx0 : 0 ≤ x := by omega
        by_cases hbig : 255 < x
        · have hd2 : decide (255 < x) = true := by simpa using hbig
          have HRR := Lib.hid (HRB.out (F2.out (Or.inr hbig)))
          go_wp2
          go_quiet (fail)
          go_wp2
          have h9 := (Blk.drewN H0.out.2.2 nq).set4 (.int .u64 0) (.int .u64 0) (.int .u64 0) (.int .u64 0)
          refine bodyPost_ret (v := .tuple #[mv mk0, .int .i64 1]) ?_ rfl ⟨by rw [HRR.out], ?_⟩
          · simp [results, Tryd.results12, go_sem, h9.cell 0 _ rfl, h9.cell 1 _ rfl, h9.cell 2 _ rfl, h9.cell 3 _ rfl]; rfl
          · exact ((((belowD H0.out.2.1 nq).setCell (by simp) _).setCell (by simp) _).setCell (by simp) _).setCell (by simp) _
        · have hd2 : decide (255 < x) = false := by simpa using hbig
          by_cases hin : x ∈ xs.take k
          · have HD : Hid (decide (x ∈ xs.take k) = true) := Lib.hid (by simpa using hin)
            have HRR := Lib.hid (HRB.out (F3.out hin))
            have HQ : Hid (∀ n, Calls Tryd.prog 36 #[.slice (some ⟨b, off, none⟩) k cap, .int .i64 x] (wr.drewN n) fun e w' => e = .returned (.bool true) ∧ w' = wr.drewN n) := Lib.hid (fun n => by
              refine (in_any (xs.take k) _ (by simp; omega) x _ (HI.out _ (belowD H0.out.2.1 n))).mono ?_
              rintro e w' ⟨rfl, rfl⟩
              exact ⟨by rw [HD.out], rfl⟩)
            clear hin
            go_wp2
            go_quiet ((go_at_call 36; exact Calls.quiet_of_same (HQ.out _)))
            go_wp2
            have h9 := (Blk.drewN H0.out.2.2 nq).set4 (.int .u64 0) (.int .u64 0) (.int .u64 0) (.int .u64 0)
            refine bodyPost_ret (v := .tuple #[mv mk0, .int .i64 1]) ?_ rfl ⟨by rw [HRR.out], ?_⟩
            · simp [results, Tryd.results12, go_sem, h9.cell 0 _ rfl, h9.cell 1 _ rfl, h9.cell 2 _ rfl, h9.cell 3 _ rfl]; rfl
            · exact ((((belowD H0.out.2.1 nq).setCell (by simp) _).setCell (by simp) _).setCell (by simp) _).setCell (by simp) _
          · have HD : Hid (decide (x ∈ xs.take k) = false) := Lib.hid (by simpa using hin)
            have HF := Lib.hid (F1.out hx0 (by omega) hin)
            have HQ : Hid (∀ n, Calls Tryd.prog 36 #[.slice (some ⟨b, off, none⟩) k cap, .int .i64 x] (wr.drewN n) fun e w' => e = .returned (.bool false) ∧ w' = wr.drewN n) := Lib.hid (fun n => by
              refine (in_any (xs.take k) _ (by simp; omega) x _ (HI.out _ (belowD H0.out.2.1 n))).mono ?_
              rintro e w' ⟨rfl, rfl⟩
              exact ⟨by rw [HD.out], rfl⟩)
            clear hin
            go_wp2
            go_quiet ((go_at_call 36; exact Calls.quiet_of_same (HQ.out _)))
            go_wp2
            go_roundw
            case rel => exact ⟨k + 1, by omega, by go_num, HF.out, belowD H0.out.2.1 nq, Blk.drewN H0.out.2.2 nq⟩
            case measure => simp [intOf]; omega
    · obtain rfl : k = xs.length := by omega
      have hRR : R = (makeM xs, 0) := by rw [← HR.out, rOfRes, if_pos (fineTo_all H0.out.1)]
      have HRR := Lib.hid hRR
      clear hRR
      have HV : Hid (IntsAt wr (.slice (some ⟨b, off, none⟩) xs.length cap) xs) := Lib.hid (.inr ⟨b, off, cap, rfl, Nat.lt_of_lt_of_le hb H0.out.2.1.size, fun j hj => (H0.out.2.1.cell (p := ⟨b, off + j, none⟩) hb).trans (HC.out j hj)⟩)
      have hlt' : ¬ ((xs.length : Nat) : Int) < (xs.length : Nat) := by omega
      generalize hM : makeM xs = M at HRR
      have HM := Lib.hid hM
      clear hM
      go_wp2_with (go_at_call 37; refine (Make_any xs _ hlen _ HV.out).mono ?_; rintro e w2 ⟨rfl, hb⟩; rw [HM.out]; obtain ⟨q0, q1, q2, q3, r0, r1, r2, r3⟩ := (H0.out.2.2.below hb H0.out.2.2.lt).all4; dsimp only [mv]; have HBB := Lib.hid hb; clear hb)
      have h9 := (H0.out.2.2.below HBB.out H0.out.2.2.lt).set4 (.int .u64 M.1) (.int .u64 M.2.1) (.int .u64 M.2.2.1) (.int .u64 M.2.2.2)
      refine bodyPost_ret (v := .tuple #[mv M, .int .i64 0]) ?_ rfl ⟨by rw [HRR.out], ?_⟩
      · simp [results, Tryd.results12, go_sem, h9.cell 0 _ rfl, h9.cell 1 _ rfl, h9.cell 2 _ rfl, h9.cell 3 _ rfl]; rfl
      · have hW : Below w.heap.size w w2 := H0.out.2.1.trans (HBB.out.mono H0.out.2.1.size)
        exact (((hW.setCell (by simp) _).setCell (by simp) _).setCell (by simp) _).setCell (by simp) _
end Go.Proofs.YtbjeaebgnnljhaaDoor
