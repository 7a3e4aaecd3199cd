/- WALKS: Same; masks compared, masks built. -/
import Derived.Test.YtbjeaebgnnljhaaDoorWm
namespace Go.Proofs.YtbjeaebgnnljhaaDoor
open Go.RowKit Go.Shelf
set_option maxHeartbeats 2000000
set_option maxRecDepth 100000

theorem IntsAt.shape {W : World} {v : Value} {xs : List Int} (h : IntsAt W v xs) : ∃ p cap, v = .slice p xs.length cap ∧
    (0 < xs.length → ∃ b off, p = some ⟨b, off, none⟩ ∧ b < W.heap.size ∧ ∀ j (h : j < xs.length), W.cell? ⟨b, off + j, none⟩ = some (.int .i64 xs[j])) := by
  rcases h with ⟨rfl, rfl⟩ | ⟨b, off, cap, rfl, hb, hc⟩
  · exact ⟨none, 0, rfl, fun h => absurd h (by simp)⟩
  · exact ⟨_, cap, rfl, fun _ => ⟨b, off, rfl, hb, hc⟩⟩

theorem take_ne {xs ys : List Int} {k : Nat} (h : k < xs.length) (h' : k < ys.length) (hne : xs[k] ≠ ys[k]) : xs ≠ ys := by
  rintro rfl; exact hne rfl

theorem Same_any (xs ys : List Int) (v v' : Value) (hlen : xs.length ≤ 140737488355328) (hlen' : ys.length ≤ 140737488355328) (w : World) (hv : IntsAt w v xs) (hv' : IntsAt w v' ys) :
    Calls Tryd.prog 16 #[v, v'] w fun e w' => e = .returned (.bool (decide (xs = ys))) ∧ Below w.heap.size w w' := by
  obtain ⟨p, cap, rfl, hp⟩ := hv.shape
  obtain ⟨p', cap', rfl, hp'⟩ := hv'.shape
  have HP := Lib.hid hp
  have HP' := Lib.hid hp'
  clear hp hp' hv hv'
  by_cases hl : xs.length = ys.length
  · go_enter Tryd.func16, Tryd.ntmps16
    go_wp2
    go_loopw [5, 11, 12, 13, 14, 15, 16, 17, 18, 19, 20, 21, 22, 23, 24, 25] (fun i _ _ _ _ _ _ _ _ _ _ _ _ _ _ _ wr => ∃ k : Nat, k ≤ xs.length ∧ i = .int .i64 k ∧ xs.take k = ys.take k ∧ Below w.heap.size w wr)
      (fun i _ _ _ _ _ _ _ _ _ _ _ _ _ _ _ _ => xs.length - (intOf i).toNat)
    case atStart => exact ⟨0, Nat.zero_le _, rfl, rfl, by first | exact Below.refl _ _ | exact (Below.refl _ _).drew⟩
    case round =>
      obtain ⟨k, hk, rfl, ht, hb0⟩ := hrel
      by_cases hlt : k < xs.length
      · obtain ⟨b, off, rfl, hb, hc⟩ := HP.out (by omega)
        obtain ⟨b', off', rfl, hb', hc'⟩ := HP'.out (by omega)
        have hlt' : k < ys.length := by omega
        have e1 : wr.cell? ⟨b, off + k, none⟩ = some (.int .i64 xs[k]) := (hb0.cell (p := ⟨b, off + k, none⟩) hb).trans (hc k hlt)
        have e2 : wr.cell? ⟨b', off' + k, none⟩ = some (.int .i64 ys[k]) := (hb0.cell (p := ⟨b', off' + k, none⟩) hb').trans (hc' k hlt')
        have HT : Hid (xs[k] = ys[k] → xs.take (k + 1) = ys.take (k + 1)) := Lib.hid (fun e => by
          rw [List.take_succ_eq_append_getElem hlt, List.take_succ_eq_append_getElem hlt', ht, e])
        have HN : Hid (xs[k] ≠ ys[k] → xs ≠ ys) := Lib.hid (take_ne hlt hlt')
        have HB := Lib.hid hb0
        obtain ⟨x, hx⟩ : ∃ x, xs[k] = x := ⟨_, rfl⟩
        obtain ⟨y, hy⟩ : ∃ y, ys[k] = y := ⟨_, rfl⟩
        rw [hx] at e1 HT HN
        rw [hy] at e2 HT HN
        clear hx hy hc hc' ht hb0
        have hki : (k : Int) < (ys.length : Nat) := by omega
        by_cases hxy : x = y
        · subst hxy
          have HT2 := Lib.hid (HT.out rfl)
          clear HT
          go_wp2
          go_region
          all_goals (
            go_wp2
            go_roundw
            case rel => exact ⟨k + 1, by omega, by simp, HT2.out, by first | exact HB.out | exact HB.out.drew⟩
            case measure => simp [intOf]; omega)
        · go_wp2
          go_region
          all_goals (
            go_wp2
            exact bodyPost_ret (v := .bool false) (by simp [results, Tryd.results16, go_sem]) rfl ⟨by rw [decide_eq_false (HN.out hxy)], by first | exact HB.out | exact HB.out.drew⟩)
      · obtain rfl : k = xs.length := by omega
        have HT := Lib.hid ht
        have HB := Lib.hid hb0
        clear ht hb0
        go_wp2
        exact bodyPost_ret (v := .bool true) (by simp [results, Tryd.results16, go_sem]) rfl ⟨by rw [decide_eq_true]; have h := HT.out; rwa [List.take_length, hl, List.take_length] at h, HB.out⟩
  · go_enter Tryd.func16, Tryd.ntmps16
    go_wp2
    exact bodyPost_ret (v := .bool false) (by simp [results, Tryd.results16, go_sem]) rfl ⟨by rw [decide_eq_false]; rintro rfl; exact hl rfl, Below.refl _ _⟩
theorem eqMask {t : TypeId} (ht : Tryd.prog.underlying t = some (.array 4 22)) (a b c d a' b' c' d' : Int) (w : World) :
    (Op.equalIn 10000 t (.agg #[.int .u64 a, .int .u64 b, .int .u64 c, .int .u64 d]) (.agg #[.int .u64 a', .int .u64 b', .int .u64 c', .int .u64 d'])).run Tryd.prog w = .ok (a == a' && (b == b' && (c == c' && d == d'))) w := by
  have u22 := Tryd.underlying22
  have a22 := Tryd.isAgg22
  have z22 := Tryd.sizeOf22
  rw [show (10000 : Nat) = 9999 + 1 from rfl, Op.equalIn]
  simp only [Sem.run_bind, run_underlying ht, Result.andThen_ok]
  simp only [Std.Legacy.Range.forIn_eq_forIn_range', Std.Legacy.Range.size, Nat.sub_zero, Nat.add_sub_cancel, Nat.div_one, List.range'_succ, List.range'_zero, List.forIn_cons, List.forIn_nil]
  go_simp
  by_cases h1 : a = a' <;> by_cases h2 : b = b' <;> by_cases h3 : c = c' <;> by_cases h4 : d = d' <;> simp [h1, h2, h3, h4]
@[go_sem] theorem eq27 (a b c d a' b' c' d' : Int) (w : World) :
    (Op.equalIn 10000 27 (.agg #[.int .u64 a, .int .u64 b, .int .u64 c, .int .u64 d]) (.agg #[.int .u64 a', .int .u64 b', .int .u64 c', .int .u64 d'])).run Tryd.prog w = .ok (a == a' && (b == b' && (c == c' && d == d'))) w := eqMask Tryd.underlying27 ..
@[go_sem] theorem eq24 (a b c d a' b' c' d' : Int) (w : World) :
    (Op.equalIn 10000 24 (.agg #[.int .u64 a, .int .u64 b, .int .u64 c, .int .u64 d]) (.agg #[.int .u64 a', .int .u64 b', .int .u64 c', .int .u64 d'])).run Tryd.prog w = .ok (a == a' && (b == b' && (c == c' && d == d'))) w := eqMask Tryd.underlying24 ..
@[go_sem] theorem build27 (w : World) : (Instr.build 27 #[]).run Tryd.prog w = .ok (.agg #[.int .u64 0, .int .u64 0, .int .u64 0, .int .u64 0]) w := run_build w 27 _ _ (by kernel_rfl)
end Go.Proofs.YtbjeaebgnnljhaaDoor
