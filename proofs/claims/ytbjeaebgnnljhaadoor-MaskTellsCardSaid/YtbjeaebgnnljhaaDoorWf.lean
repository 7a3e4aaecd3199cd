/- WALKS: slices.AppendSeq, slices.Collect, List. -/
import Derived.Maps.AppendAt
import Derived.Test.YtbjeaebgnnljhaaDoorWe
namespace Go.Proofs.YtbjeaebgnnljhaaDoor
open Go.RowKit Go.Shelf
attribute [local go_sem] Oper.semAt_some
set_option maxHeartbeats 1000000
set_option maxRecDepth 100000

/-- A slice value holds numbers. -/
def IntsAt (W : World) (v : Value) (xs : List Int) : Prop :=
  (v = .slice none 0 0 ∧ xs = []) ∨ ∃ b off cap, v = .slice (some ⟨b, off, none⟩) xs.length cap ∧ b < W.heap.size ∧ ∀ j (h : j < xs.length), W.cell? ⟨b, off + j, none⟩ = some (.int .i64 xs[j])
theorem IntsAt.below {W W' : World} {v : Value} {xs : List Int} (h : IntsAt W v xs) (hb : Below W.heap.size W W') : IntsAt W' v xs := by
  rcases h with h | ⟨b, off, cap, rfl, hlt, hc⟩
  · exact .inl h
  · exact .inr ⟨b, off, cap, rfl, Nat.lt_of_lt_of_le hlt hb.size, fun j hj => (hb.cell (p := ⟨b, off + j, none⟩) hlt).trans (hc j hj)⟩
theorem Tryd.info3 : (Tryd.prog.info? 3).map (fun i => (i.zero, i.size, i.bytes)) = some (some (.int .i64 0), 1, 8) := by kernel_rfl
theorem Blk.not_row {W : World} {B : Nat} {cs : Array Value} {t e : TypeId} (h : Blk W B cs t) (hte : t ≠ e) {base size k : Nat} {v : Value} {xs : List Value} (hr : W.ownsRow base e size v k xs) : some B ≠ v.ownBlock := by
  rcases hr.2 with ⟨rfl, _⟩ | ⟨g, cap, cur, rfl, _, hgb, _⟩
  · simp [Value.ownBlock]
  · intro e'
    obtain rfl : B = g := by simpa [Value.ownBlock] using e'
    have := (show W.heap[B]? = _ from h).symm.trans hgb
    simp at this
    exact hte this.2

theorem AppendSeq_in (F : Fence) (hF : FW F) (m : MK) (hm : mok m) (Bm : Nat) (w : World) (hBm : Blk w Bm #[.int .u64 m.1, .int .u64 m.2.1, .int .u64 m.2.2.1, .int .u64 m.2.2.2] 27) :
    CallsIn F 5 Tryd.prog 51 #[.slice none 0 0, .func (.func 52) #[] #[.pointer (some ⟨Bm, 0, none⟩)]] w fun e w' => ∃ v, e = .returned v ∧
      w'.ownsRow w.heap.size 3 1 v (upTo m 256).length ((upTo m 256).map fun x => Value.int .i64 ((x.1 : Nat) : Int)) ∧ Below w.heap.size w w' := by
  have hw := hF.fn
  have hro := hF.round
  obtain ⟨i0, hi, hz0, hz1, hz2⟩ := info_parts Tryd.info3
  refine callsIn_of_wp_marks Tryd.func51 rfl (hw _) ?_ hro
  simp only [Tryd.ntmps51, List.size_toArray, List.length_cons, List.length_nil, Nat.reduceAdd, Nat.reduceSub, Array.replicate_succ, Array.replicate_zero, List.push_toArray, List.append_toArray, List.nil_append, List.cons_append]
  gi_wp2
  have bS := Boxed.new w 25 (.slice none 0 0)
  have hm0 := hBm.alloc (.cells #[.slice none 0 0] 25)
  have hlt := hBm.lt
  have hB0 : Below w.heap.size w (w.alloc (.cells #[.slice none 0 0] 25)) := (Below.refl _ w).alloc (Nat.le_refl _) _
  refine wpIn_rangeFunc_ownG hro (by omega) (gf := 52) (lb := #[.pointer (some ⟨Bm, 0, none⟩)]) rfl (hw _) (enters_of Tryd.func52 (by kernel_rfl) rfl)
    (cores_stops F hF _ (by omega) m hm Bm _ hm0) KpB_t (KpB_b (by simp; omega)) (Below.refl _ _) (fun _ => rfl)
    (fun pre W => (∃ v, Boxed W w.heap.size 25 v ∧ W.ownsRow w.heap.size 3 1 v pre.length (pre.map fun x => Value.int .i64 ((x.1 : Nat) : Int)) ∧ True) ∧ Below w.heap.size w W)
    (fun _ _ _ => False)
    (OwnFrom.and (Own.from (holdsRow_own w.heap.size w.heap.size 25 3 1 (fun pre : List C256 => pre.length) (fun pre => pre.map fun x => Value.int .i64 ((x.1 : Nat) : Int)) (fun _ _ => True)) _) (ownFrom_below (Nat.le_refl _) (by simp)))
    (fun _ _ _ _ _ hs _ _ => hs)
    ⟨⟨_, bS, World.ownsRow_nil _ _ _ _, trivial⟩, hB0⟩
    (fun x => { tmps := #[.slice none 0 0, .func (.func 52) #[] #[.pointer (some ⟨Bm, 0, none⟩)], .pointer (some ⟨w.heap.size, 0, none⟩), undef, .slice none 0 0, .int .i64 ((x.1 : Nat) : Int), .func (.func 52) #[] #[.pointer (some ⟨Bm, 0, none⟩)], .int .i64 ((x.1 : Nat) : Int), undef, undef, undef, undef, undef], defers := [] }) ?assign ?body ?done ?stop
  case assign =>
    intro l x W K hK
    gi_wp2
    exact hK
  case body =>
    rintro l pre x W ⟨⟨v, hv, hrow, -⟩, hB⟩ hlen
    have hc := hv.cell
    have hmB := hBm.below hB hlt
    have HM := Lib.hid hmB
    have HT := Lib.hid hlt
    clear hm0 hlt hmB hBm
    gi_wp2_with (gi_at_builtin; refine wpListIn_append_own _ rfl _ _ 25 rfl w.heap.size 3 i0 (.int .i64 0) 1 8 Tryd.underlying25 hi hz0 hz1 hz2 rfl (by decide) _ _ _ rfl (hrow.alloc _) ⟨W.heap.size, 0, none⟩ 1 1 [.int .i64 ((x.1 : Nat) : Int)] rfl rfl (cell_one_new _ _ _) (by simp [Value.oneCell']) (by unfold maxLen; omega) (by omega) (by have := hB.size; simp; omega) ?_; intro v' w1 hown' hgrow _; obtain ⟨g', cap', rfl⟩ := ownsRow_succ hown'; obtain ⟨hv1, hv2, hr2, hk2, hb2⟩ := hv.appended (by decide) hrow hB.size (Nat.le_refl _) hown' hgrow; have hc1 := hv1.cell; have hf1 := hv1.frozen)
    exact ⟨hk2.from _, hb2.block _ HT.out, ⟨_, hv2, by simpa using hr2, trivial⟩, hB.trans hb2⟩
  case done =>
    rintro D ys W hD rfl ⟨⟨v, hv, hrow, -⟩, hB⟩ hK
    have hc := hv.cell
    gi_wp2
    refine ⟨by simp, .inl ⟨_, _, rfl, run_takeDeferred hK, ?_⟩⟩
    exact ⟨_, results_tmp rfl _ _ _, v, rfl, ownsRow_putObj hrow _ hK rfl, hB.trans (belowK_b (w := w) (Nat.le_refl _) W D _ _ (by simp at hD; omega) hK rfl rfl)⟩
  case stop =>
    rintro D c pre W _ _ h _
    exact h.elim

/-- slices.Collect, of a mask's cores. -/
theorem Collect_any (m : MK) (hm : mok m) (Bm : Nat) (w : World) (hBm : Blk w Bm #[.int .u64 m.1, .int .u64 m.2.1, .int .u64 m.2.2.1, .int .u64 m.2.2.2] 27) :
    Calls Tryd.prog 38 #[.func (.func 52) #[] #[.pointer (some ⟨Bm, 0, none⟩)]] w fun e w' => ∃ v, e = .returned v ∧
      w'.ownsRow w.heap.size 3 1 v (upTo m 256).length ((upTo m 256).map fun x => Value.int .i64 ((x.1 : Nat) : Int)) ∧ Below w.heap.size w w' := by
  have HB := Lib.hid hBm
  clear hBm
  go_enter Tryd.func38, Tryd.ntmps38
  go_wp2_with (go_at_call 51; refine (callsIn_wide.1 (AppendSeq_in _ FW.wide m hm Bm _ HB.out)).mono ?_; rintro e w1 ⟨v, rfl, hr, hb⟩)
  go_ret
  exact ⟨v, rfl, hr, hb⟩

def coreInts (m : MK) : List Int := (upTo m 256).map fun x => ((x.1 : Nat) : Int)
theorem ints_of_row {W : World} {base : Nat} {v : Value} {xs : List Int} (h : W.ownsRow base 3 1 v xs.length (xs.map (Value.int .i64))) : IntsAt W v xs := by
  rcases h.2 with ⟨rfl, h0⟩ | ⟨g, cap, cur, rfl, _, hgb, hle, _, hsz, htk⟩
  · exact .inl ⟨rfl, List.eq_nil_of_length_eq_zero h0⟩
  · refine .inr ⟨g, 0, cap, rfl, (Array.getElem?_eq_some_iff.1 hgb).1, fun j hj => ?_⟩
    rw [Nat.zero_add]
    have e : cur.toList[j]? = some (.int .i64 xs[j]) := by
      have : (cur.toList.take (xs.length * 1))[j]? = (xs.map (Value.int .i64))[j]? := by rw [htk]
      rw [List.getElem?_take_of_lt (by omega)] at this
      rw [this]; simp [hj]
    have e2 : cur[j]? = some (.int .i64 xs[j]) := by simpa using e
    simp [World.cell?, hgb, e2]

/-- (Mask).List: the cores, rising. -/
theorem List_any (m : MK) (hm : mok m) (w : World) :
    Calls Tryd.prog 17 #[mv m] w fun e w' => ∃ v, e = .returned v ∧ IntsAt w' v (coreInts m) ∧ Below w.heap.size w w' := by
  have hk := Blk.new (w.alloc (.cells #[.int .u64 m.1, .int .u64 m.2.1, .int .u64 m.2.2.1, .int .u64 m.2.2.2] 27)) #[.int .u64 m.1, .int .u64 m.2.1, .int .u64 m.2.2.1, .int .u64 m.2.2.2] 27
  rw [World.size_alloc] at hk
  have HK := Lib.hid hk
  clear hk
  unfold mv
  go_enter Tryd.func17, Tryd.ntmps17
  go_wp2_with (first | (go_at_call 39; refine (cores_any m _).mono ?_; rintro e w' ⟨rfl, rfl⟩) | (go_at_call 38; refine (Collect_any m hm _ _ HK.out).mono ?_; rintro e w1 ⟨v, rfl, hr, hb⟩))
  go_ret
  refine ⟨v, rfl, ints_of_row (xs := coreInts m) (by unfold coreInts; rw [List.map_map, List.length_map]; exact hr), ?_⟩
  exact ((((Below.refl _ w).alloc (Nat.le_refl _) _).alloc (by simp) _)).trans (hb.mono (by simp; omega))
end Go.Proofs.YtbjeaebgnnljhaaDoor
