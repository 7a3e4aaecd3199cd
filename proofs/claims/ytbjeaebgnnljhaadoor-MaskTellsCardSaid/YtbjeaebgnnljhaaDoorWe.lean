/- WALKS: Count, List, Lowest: loops over a mask's cores. -/
import Derived.Test.YtbjeaebgnnljhaaDoorWd
namespace Go.Proofs.YtbjeaebgnnljhaaDoor
open Go.RowKit Go.Shelf
attribute [local go_sem] Oper.semAt_some
set_option maxHeartbeats 1000000
set_option maxRecDepth 100000

theorem Blk.kept {W W' : World} {row : Option Nat} {B : Nat} {cs : Array Value} {t : TypeId} (h : Blk W B cs t) (hg : W.grownBy W' row) (hne : some B ≠ row) : Blk W' B cs t := (hg.block B h.lt hne).trans h
theorem blk_own {β : Type} (f : β → Array Value) (B : Nat) (t : TypeId) : Own (fun s W => Blk W B (f s) t) := by
  intro s X Y row hv hg hrow
  refine hv.kept hg (fun e' => ?_)
  obtain ⟨o, ho, hc⟩ := hrow B e'.symm
  rw [show X.heap[B]? = _ from hv] at ho; cases ho; cases hc

theorem Count_in (F : Fence) (hF : FW F) (m : MK) (hm : mok m) (w : World) :
    CallsIn F 5 Tryd.prog 18 #[mv m] w fun e w' => e = .returned (.int .i64 ((upTo m 256).length : Nat)) ∧ Below w.heap.size w w' := by
  have hw := hF.fn
  have hro := hF.round
  refine callsIn_of_wp_marks Tryd.func18 rfl (hw _) ?_ hro
  simp only [Tryd.ntmps18, List.size_toArray, List.length_cons, List.length_nil, Nat.reduceAdd, Nat.reduceSub, Array.replicate_succ, Array.replicate_zero, List.push_toArray, List.append_toArray, List.nil_append, List.cons_append]
  unfold mv
  gi_wp2_with (gi_at_call 39; refine (hF.of (cores_any m _)).mono ?_; rintro e w' ⟨rfl, rfl⟩)
  have hk := ((Blk.new (w.alloc (.cells #[.int .u64 m.1, .int .u64 m.2.1, .int .u64 m.2.2.1, .int .u64 m.2.2.2] 27)) #[.int .i64 0] 3).alloc (.cells #[.int .u64 m.1, .int .u64 m.2.1, .int .u64 m.2.2.1, .int .u64 m.2.2.2] 27))
  have hm0 := Blk.new ((w.alloc (.cells #[.int .u64 m.1, .int .u64 m.2.1, .int .u64 m.2.2.1, .int .u64 m.2.2.2] 27)).alloc (.cells #[.int .i64 0] 3)) #[.int .u64 m.1, .int .u64 m.2.1, .int .u64 m.2.2.1, .int .u64 m.2.2.2] 27
  have hB0 : Below w.heap.size w (((w.alloc (.cells #[.int .u64 m.1, .int .u64 m.2.1, .int .u64 m.2.2.1, .int .u64 m.2.2.2] 27)).alloc (.cells #[.int .i64 0] 3)).alloc (.cells #[.int .u64 m.1, .int .u64 m.2.1, .int .u64 m.2.2.1, .int .u64 m.2.2.2] 27)) := ((((Below.refl _ w).alloc (Nat.le_refl _) _).alloc (by simp) _).alloc (by simp; omega) _)
  rw [World.size_alloc] at hk
  rw [World.size_alloc, World.size_alloc] at hm0
  refine wpIn_rangeFunc_ownG hro (by omega) (gf := 52) (lb := #[.pointer (some ⟨w.heap.size + 1 + 1, 0, none⟩)]) rfl (hw _) (enters_of Tryd.func52 (by kernel_rfl) rfl)
    (cores_stops F hF _ (by omega) m hm (w.heap.size + 1 + 1) _ hm0) KpB_t (KpB_b (by simp)) (Below.refl _ _) (fun _ => rfl)
    (fun pre W => Blk W (w.heap.size + 1) #[.int .i64 (pre.length : Nat)] 3 ∧ Below w.heap.size w W)
    (fun _ _ _ => False)
    (OwnFrom.and (Own.from (blk_own (fun pre : List C256 => #[.int .i64 (pre.length : Nat)]) _ _) _) (ownFrom_below (Nat.le_refl _) (by simp; omega)))
    (fun _ _ _ _ _ hs _ _ => hs)
    ⟨hk, hB0⟩
    (fun x => { tmps := #[.agg #[.int .u64 m.1, .int .u64 m.2.1, .int .u64 m.2.2.1, .int .u64 m.2.2.2], .pointer (some ⟨w.heap.size, 0, none⟩), .int .i64 0, .pointer (some ⟨w.heap.size + 1, 0, none⟩), .agg #[.int .u64 m.1, .int .u64 m.2.1, .int .u64 m.2.2.1, .int .u64 m.2.2.2], .func (.func 52) #[] #[.pointer (some ⟨w.heap.size + 1 + 1, 0, none⟩)], .int .i64 ((x.1 : Nat) : Int), undef, undef, undef], defers := [] }) ?assign ?body ?done ?stop
  case assign =>
    intro l x W K hK
    gi_wp2
    simpa using hK
  case body =>
    rintro l pre x W ⟨hk2, hB2⟩ hlen
    have c0 := hk2.cell 0 _ rfl
    have f0 := hk2.frozen 0
    have H := Lib.hid (And.intro hk2 hB2)
    clear hk2 hB2 hk hm0 hB0
    gi_wp2
    exact ⟨(KeepsOthers.setCell _ _ _).from _, (Below.heap_setCell _ _ _ _ (by simp)), by simpa using H.out.1.set 0 _, H.out.2.setCell (by simp) _⟩
  case done =>
    rintro D ys W hD rfl ⟨hk2, hB2⟩ hK
    have c0 := hk2.cell 0 _ rfl
    have H := Lib.hid (And.intro hk2 hB2)
    clear hk2 hB2 hk hm0 hB0
    gi_wp2
    refine ⟨by simp, .inl ⟨_, _, rfl, run_takeDeferred hK, ?_⟩⟩
    exact ⟨_, results_tmp rfl _ _ _, rfl, H.out.2.trans (belowK_b (w := w) (Nat.le_refl _) W D _ _ (by simp at hD; omega) hK rfl rfl)⟩
  case stop =>
    rintro D c pre W _ _ h _
    exact h.elim
end Go.Proofs.YtbjeaebgnnljhaaDoor
