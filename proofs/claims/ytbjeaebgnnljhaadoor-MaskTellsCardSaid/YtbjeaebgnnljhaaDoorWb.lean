/- WALKS: a block known whole; each, And, Or, Minus. -/
import Derived.Deep.RegionWith
import Derived.StillTailTactics
import Derived.Test.YtbjeaebgnnljhaaDoorWa
namespace Go.Proofs.YtbjeaebgnnljhaaDoor
open Go.RowKit Go.Shelf
set_option maxHeartbeats 1000000
set_option maxRecDepth 100000

/-- A block known whole. -/
def Blk (W : World) (B : Nat) (cs : Array Value) (t : TypeId) : Prop := W.heap[B]? = some (.cells cs t (0, 0))
theorem Blk.new (W : World) (cs : Array Value) (t : TypeId) : Blk (W.alloc (.cells cs t)) W.heap.size cs t := World.alloc_heap_new W _
theorem Blk.lt {W : World} {B : Nat} {cs : Array Value} {t : TypeId} (h : Blk W B cs t) : B < W.heap.size := (Array.getElem?_eq_some_iff.1 h).1
theorem Blk.below {W W' : World} {n B : Nat} {cs : Array Value} {t : TypeId} (h : Blk W B cs t) (hb : Below n W W') (hn : B < n) : Blk W' B cs t := (hb.block B hn).trans h
theorem Blk.alloc {W : World} {B : Nat} {cs : Array Value} {t : TypeId} (h : Blk W B cs t) (o : Obj) : Blk (W.alloc o) B cs t := (Below.heap_alloc W o B h.lt).trans h
theorem Blk.drew {W : World} {B : Nat} {cs : Array Value} {t : TypeId} (h : Blk W B cs t) : Blk W.drew B cs t := h
theorem Blk.far {W : World} {B : Nat} {cs : Array Value} {t : TypeId} (h : Blk W B cs t) (p : Addr) (v : Value) (hne : B ≠ p.block) : Blk (W.setCell p v) B cs t := (Below.heap_setCell W p v B hne).trans h
theorem Blk.set {W : World} {B : Nat} {cs : Array Value} {t : TypeId} (h : Blk W B cs t) (i : Nat) (v : Value) : Blk (W.setCell ⟨B, i, none⟩ v) B (cs.setIfInBounds i v) t := by
  obtain ⟨hlt, hk⟩ := Array.getElem?_eq_some_iff.1 h
  show (W.heap.modify B _)[B]? = _
  rw [Array.getElem?_eq_getElem (by rw [Array.size_modify]; exact hlt), Array.getElem_modify_self, hk]
  rfl
theorem Blk.cell {W : World} {B : Nat} {cs : Array Value} {t : TypeId} (h : Blk W B cs t) (i : Nat) (v : Value) (hi : cs[i]? = some v) : W.cell? ⟨B, i, none⟩ = some v := by
  simp [World.cell?, show W.heap[B]? = _ from h, hi]
theorem Blk.frozen {W : World} {B : Nat} {cs : Array Value} {t : TypeId} (h : Blk W B cs t) (i : Nat) : W.frozen? ⟨B, i, none⟩ = false := by
  simp [World.frozen?, show W.heap[B]? = _ from h]

theorem each_any (f : Nat) (op : Int → Int → Int) (he : ∀ args w, (callFunc f args).run Tryd.prog w = .ok (.enter f args) w) (hF : ∀ a b w, Calls Tryd.prog f #[.int .u64 a, .int .u64 b] w fun e w' => e = .returned (.int .u64 (op a b)) ∧ w' = w)
    (a b c d a' b' c' d' : Int) (w : World) : Calls Tryd.prog 47 #[.agg #[.int .u64 a, .int .u64 b, .int .u64 c, .int .u64 d], .agg #[.int .u64 a', .int .u64 b', .int .u64 c', .int .u64 d'], .func (.func f) #[] #[]] w fun e w' => e = .returned (.agg #[.int .u64 (op a a'), .int .u64 (op b b'), .int .u64 (op c c'), .int .u64 (op d d')]) ∧ Below w.heap.size w w' := by
  have HF := Lib.hid hF
  clear hF
  go_enter Tryd.func47, Tryd.ntmps47
  go_wp2
  go_loopw [7, 8, 9, 10, 11, 12, 13, 14, 15, 16, 17, 18, 19, 20, 21] (fun _ i _ _ _ _ _ _ _ _ _ _ _ _ _ wr => Below w.heap.size w wr ∧ Blk wr (w.heap.size + 1) #[.int .u64 a', .int .u64 b', .int .u64 c', .int .u64 d'] 27 ∧ Blk wr (w.heap.size + 1 + 1) #[.int .u64 0, .int .u64 0, .int .u64 0, .int .u64 0] 27 ∧
     ((i = .int .i64 0 ∧ Blk wr w.heap.size #[.int .u64 a, .int .u64 b, .int .u64 c, .int .u64 d] 27) ∨
      (i = .int .i64 1 ∧ Blk wr w.heap.size #[.int .u64 (op a a'), .int .u64 b, .int .u64 c, .int .u64 d] 27) ∨
      (i = .int .i64 2 ∧ Blk wr w.heap.size #[.int .u64 (op a a'), .int .u64 (op b b'), .int .u64 c, .int .u64 d] 27) ∨
      (i = .int .i64 3 ∧ Blk wr w.heap.size #[.int .u64 (op a a'), .int .u64 (op b b'), .int .u64 (op c c'), .int .u64 d] 27) ∨
      (i = .int .i64 4 ∧ Blk wr w.heap.size #[.int .u64 (op a a'), .int .u64 (op b b'), .int .u64 (op c c'), .int .u64 (op d d')] 27))) (fun _ i _ _ _ _ _ _ _ _ _ _ _ _ _ _ => 4 - (intOf i).toNat)
  case atStart => 
    refine ⟨?_, ?_, ?_, Or.inl ⟨rfl, ?_⟩⟩
    · repeat (first | exact Below.refl _ _ | exact Nat.le_refl _ | refine Below.drew ?_ | refine Below.alloc ?_ ?_ _ | refine Below.setCell ?_ ?_ _ | refine size_alloc_le _ _ _ ?_)
    · have h := (Blk.new (w.alloc (.cells #[.int .u64 a, .int .u64 b, .int .u64 c, .int .u64 d] 27)) #[.int .u64 a', .int .u64 b', .int .u64 c', .int .u64 d'] 27).alloc (.cells #[.int .u64 0, .int .u64 0, .int .u64 0, .int .u64 0] 27)
      rwa [World.size_alloc] at h
    · have h := Blk.new ((w.alloc (.cells #[.int .u64 a, .int .u64 b, .int .u64 c, .int .u64 d] 27)).alloc (.cells #[.int .u64 a', .int .u64 b', .int .u64 c', .int .u64 d'] 27)) #[.int .u64 0, .int .u64 0, .int .u64 0, .int .u64 0] 27
      rwa [World.size_alloc, World.size_alloc] at h
    · exact ((Blk.new w _ 27).alloc _).alloc _
  case round =>
    obtain ⟨hb, h1, h2, (⟨rfl, h0⟩ | ⟨rfl, h0⟩ | ⟨rfl, h0⟩ | ⟨rfl, h0⟩ | ⟨rfl, h0⟩)⟩ := hrel
    · have c0 := h0.cell 0 _ rfl
      have f0 := h0.frozen 0
      have c1 := h1.cell 0 _ rfl
      have H0 := Lib.hid (And.intro h0 (And.intro h1 (And.intro h2 hb)))
      clear h0 h1 h2 hb
      go_wp2
      go_region_with (refine (HF.out _ _ _).mono ?_; rintro e w' ⟨rfl, rfl⟩)
      all_goals go_wp2
      all_goals go_roundw
      case rel => exact ⟨(H0.out.2.2.2.setCell (Nat.le_refl _) _).drew, (H0.out.2.1.far _ _ (by simp)).drew, (H0.out.2.2.1.far _ _ (by simp; omega)).drew, Or.inr (Or.inl ⟨rfl, (H0.out.1.set 0 _).drew⟩)⟩
      case measure => simp [intOf]
      case rel => exact ⟨(H0.out.2.2.2.setCell (Nat.le_refl _) _).drew, (H0.out.2.1.far _ _ (by simp)).drew, (H0.out.2.2.1.far _ _ (by simp; omega)).drew, Or.inr (Or.inl ⟨rfl, (H0.out.1.set 0 _).drew⟩)⟩
      case measure => simp [intOf]
    · have c0 := h0.cell 1 _ rfl
      have f0 := h0.frozen 1
      have c1 := h1.cell 1 _ rfl
      have H0 := Lib.hid (And.intro h0 (And.intro h1 (And.intro h2 hb)))
      clear h0 h1 h2 hb
      go_wp2
      go_region_with (refine (HF.out _ _ _).mono ?_; rintro e w' ⟨rfl, rfl⟩)
      all_goals go_wp2
      all_goals go_roundw
      case rel => exact ⟨(H0.out.2.2.2.setCell (Nat.le_refl _) _).drew, (H0.out.2.1.far _ _ (by simp)).drew, (H0.out.2.2.1.far _ _ (by simp; omega)).drew, Or.inr (Or.inr (Or.inl ⟨rfl, (H0.out.1.set 1 _).drew⟩))⟩
      case measure => simp [intOf]
      case rel => exact ⟨(H0.out.2.2.2.setCell (Nat.le_refl _) _).drew, (H0.out.2.1.far _ _ (by simp)).drew, (H0.out.2.2.1.far _ _ (by simp; omega)).drew, Or.inr (Or.inr (Or.inl ⟨rfl, (H0.out.1.set 1 _).drew⟩))⟩
      case measure => simp [intOf]
    · have c0 := h0.cell 2 _ rfl
      have f0 := h0.frozen 2
      have c1 := h1.cell 2 _ rfl
      have H0 := Lib.hid (And.intro h0 (And.intro h1 (And.intro h2 hb)))
      clear h0 h1 h2 hb
      go_wp2
      go_region_with (refine (HF.out _ _ _).mono ?_; rintro e w' ⟨rfl, rfl⟩)
      all_goals go_wp2
      all_goals go_roundw
      case rel => exact ⟨(H0.out.2.2.2.setCell (Nat.le_refl _) _).drew, (H0.out.2.1.far _ _ (by simp)).drew, (H0.out.2.2.1.far _ _ (by simp; omega)).drew, Or.inr (Or.inr (Or.inr (Or.inl ⟨rfl, (H0.out.1.set 2 _).drew⟩)))⟩
      case measure => simp [intOf]
      case rel => exact ⟨(H0.out.2.2.2.setCell (Nat.le_refl _) _).drew, (H0.out.2.1.far _ _ (by simp)).drew, (H0.out.2.2.1.far _ _ (by simp; omega)).drew, Or.inr (Or.inr (Or.inr (Or.inl ⟨rfl, (H0.out.1.set 2 _).drew⟩)))⟩
      case measure => simp [intOf]
    · have c0 := h0.cell 3 _ rfl
      have f0 := h0.frozen 3
      have c1 := h1.cell 3 _ rfl
      have H0 := Lib.hid (And.intro h0 (And.intro h1 (And.intro h2 hb)))
      clear h0 h1 h2 hb
      go_wp2
      go_region_with (refine (HF.out _ _ _).mono ?_; rintro e w' ⟨rfl, rfl⟩)
      all_goals go_wp2
      all_goals go_roundw
      case rel => exact ⟨(H0.out.2.2.2.setCell (Nat.le_refl _) _).drew, (H0.out.2.1.far _ _ (by simp)).drew, (H0.out.2.2.1.far _ _ (by simp; omega)).drew, Or.inr (Or.inr (Or.inr (Or.inr (⟨rfl, (H0.out.1.set 3 _).drew⟩))))⟩
      case measure => simp [intOf]
      case rel => exact ⟨(H0.out.2.2.2.setCell (Nat.le_refl _) _).drew, (H0.out.2.1.far _ _ (by simp)).drew, (H0.out.2.2.1.far _ _ (by simp; omega)).drew, Or.inr (Or.inr (Or.inr (Or.inr (⟨rfl, (H0.out.1.set 3 _).drew⟩))))⟩
      case measure => simp [intOf]
    · have c0 := h0.cell 0 _ rfl
      have c1 := h0.cell 1 _ rfl
      have c2 := h0.cell 2 _ rfl
      have c3 := h0.cell 3 _ rfl
      have e0 := h2.cell 0 _ rfl
      have e1 := h2.cell 1 _ rfl
      have e2 := h2.cell 2 _ rfl
      have e3 := h2.cell 3 _ rfl
      have f0 := h2.frozen 0
      have f1 := h2.frozen 1
      have f2 := h2.frozen 2
      have f3 := h2.frozen 3
      have H0 := Lib.hid (And.intro h0 (And.intro h1 (And.intro h2 hb)))
      clear h0 h1 h2 hb
      go_wp2
      have h9 := (((H0.out.2.2.1.set 0 (.int .u64 (op a a'))).set 1 (.int .u64 (op b b'))).set 2 (.int .u64 (op c c'))).set 3 (.int .u64 (op d d'))
      refine bodyPost_ret (v := .agg #[.int .u64 (op a a'), .int .u64 (op b b'), .int .u64 (op c c'), .int .u64 (op d d')]) ?_ rfl ⟨rfl, ?_⟩
      · simp [results, Tryd.results47, go_sem, h9.cell 0 _ rfl, h9.cell 1 _ rfl, h9.cell 2 _ rfl, h9.cell 3 _ rfl]
      · exact (((H0.out.2.2.2.setCell (by simp; omega) _).setCell (by simp; omega) _).setCell (by simp; omega) _).setCell (by simp; omega) _
end Go.Proofs.YtbjeaebgnnljhaaDoor
