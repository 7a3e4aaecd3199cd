/- WALKS: Lowest, of any number. -/
import Derived.Deep.RegionHeld3
import Derived.Test.YtbjeaebgnnljhaaDoorWf
namespace Go.Proofs.YtbjeaebgnnljhaaDoor
open Go.RowKit Go.Shelf
attribute [local go_sem] Oper.semAt_some
set_option maxHeartbeats 1000000
set_option maxRecDepth 100000

theorem Count_any (m : MK) (hm : mok m) (w : World) : Calls Tryd.prog 18 #[mv m] w fun e w' => e = .returned (.int .i64 ((upTo m 256).length : Nat)) ∧ Below w.heap.size w w' :=
  callsIn_wide.1 (Count_in _ FW.wide m hm w)
theorem Lowest_neg (m : MK) (n : Int) (hn : n < 0) (w : World) : Calls Tryd.prog 26 #[mv m, .int .i64 n] w fun e w' => e = .returned (.tuple #[mv mk0, .int .i64 1]) ∧ Below w.heap.size w w' := by
  unfold mv mk0
  go_enter Tryd.func26, Tryd.ntmps26
  go_wp2
  refine bodyPost_ret (v := .tuple #[.agg #[.int .u64 0, .int .u64 0, .int .u64 0, .int .u64 0], .int .i64 1]) (by simp [results, Tryd.results26, go_sem]) rfl ⟨rfl, ?_⟩
  repeat (first | exact Below.refl _ _ | exact Nat.le_refl _ | refine Below.drew ?_ | refine Below.alloc ?_ ?_ _ | refine Below.setCell ?_ ?_ _ | refine size_alloc_le _ _ _ ?_)
theorem Lowest_few (m : MK) (hm : mok m) (n : Int) (h0 : 0 ≤ n) (hn : ((upTo m 256).length : Int) < n) (w : World) : Calls Tryd.prog 26 #[mv m, .int .i64 n] w fun e w' => e = .returned (.tuple #[mv mk0, .int .i64 12]) ∧ Below w.heap.size w w' := by
  unfold mv mk0
  have HM := Lib.hid hm
  clear hm
  have hk := Blk.new ((w.alloc (.cells #[.int .u64 m.1, .int .u64 m.2.1, .int .u64 m.2.2.1, .int .u64 m.2.2.2] 27)).alloc (.cells #[.int .i64 n] 3)) #[.int .u64 0, .int .u64 0, .int .u64 0, .int .u64 0] 27
  rw [World.size_alloc, World.size_alloc] at hk
  have HK := Lib.hid hk
  clear hk
  go_enter Tryd.func26, Tryd.ntmps26
  go_wp2
  go_region_with (go_at_call 18; refine (Count_any m HM.out _).mono ?_; rintro e w1 ⟨rfl, hb⟩; obtain ⟨hc, hf⟩ := bcell hb)
  all_goals go_wp2
  all_goals
    have h9 := ((((HK.out.drew.below hb (by simp)).set 0 (.int .u64 0)).set 1 (.int .u64 0)).set 2 (.int .u64 0)).set 3 (.int .u64 0)
    refine bodyPost_ret (v := .tuple #[.agg #[.int .u64 0, .int .u64 0, .int .u64 0, .int .u64 0], .int .i64 12]) (by simp [results, Tryd.results26, go_sem, h9.cell 0 _ rfl, h9.cell 1 _ rfl, h9.cell 2 _ rfl, h9.cell 3 _ rfl]) rfl ⟨rfl, ?_⟩
    have hW : Below w.heap.size w w1 := ((((((Below.refl _ w).alloc (Nat.le_refl _) _).alloc (by simp) _).alloc (by simp; omega) _).drew).trans (hb.mono (by simp; omega)))
    exact (((hW.setCell (by simp; omega) _).setCell (by simp; omega) _).setCell (by simp; omega) _).setCell (by simp; omega) _

/-- The mask of cores, one by one. -/
def lowM (l : List C256) : MK := l.foldl (fun m x => withC m x.1) mk0
theorem lowM_snoc (l : List C256) (x : C256) : lowM (l ++ [x]) = withC (lowM l) x.1 := by simp [lowM]
theorem mok_lowM (l : List C256) : mok (lowM l) := by
  rcases List.eq_nil_or_concat l with rfl | ⟨l', x, rfl⟩
  · exact mok_mk0
  · rw [List.concat_eq_append, lowM_snoc]; exact mok_withC _ _

theorem Blk.all4 {W : World} {B : Nat} {v0 v1 v2 v3 : Value} {t : TypeId} (h : Blk W B #[v0, v1, v2, v3] t) :
    W.cell? ⟨B, 0, none⟩ = some v0 ∧ W.cell? ⟨B, 1, none⟩ = some v1 ∧ W.cell? ⟨B, 2, none⟩ = some v2 ∧ W.cell? ⟨B, 3, none⟩ = some v3 ∧
    W.frozen? ⟨B, 0, none⟩ = false ∧ W.frozen? ⟨B, 1, none⟩ = false ∧ W.frozen? ⟨B, 2, none⟩ = false ∧ W.frozen? ⟨B, 3, none⟩ = false :=
  ⟨h.cell 0 _ rfl, h.cell 1 _ rfl, h.cell 2 _ rfl, h.cell 3 _ rfl, h.frozen 0, h.frozen 1, h.frozen 2, h.frozen 3⟩
theorem Blk.set4 {W : World} {B : Nat} {v0 v1 v2 v3 : Value} {t : TypeId} (h : Blk W B #[v0, v1, v2, v3] t) (u0 u1 u2 u3 : Value) :
    Blk ((((W.setCell ⟨B, 0, none⟩ u0).setCell ⟨B, 1, none⟩ u1).setCell ⟨B, 2, none⟩ u2).setCell ⟨B, 3, none⟩ u3) B #[u0, u1, u2, u3] t :=
  (((h.set 0 u0).set 1 u1).set 2 u2).set 3 u3
theorem Blk.far4 {W : World} {B B' : Nat} {cs : Array Value} {t : TypeId} (h : Blk W B cs t) (hne : B ≠ B') (u0 u1 u2 u3 : Value) :
    Blk ((((W.setCell ⟨B', 0, none⟩ u0).setCell ⟨B', 1, none⟩ u1).setCell ⟨B', 2, none⟩ u2).setCell ⟨B', 3, none⟩ u3) B cs t :=
  (((h.far _ _ hne).far _ _ hne).far _ _ hne).far _ _ hne
theorem below_set4 {n B : Nat} {w W : World} (h : Below n w W) (hn : n ≤ B) (u0 u1 u2 u3 : Value) :
    Below n w ((((W.setCell ⟨B, 0, none⟩ u0).setCell ⟨B, 1, none⟩ u1).setCell ⟨B, 2, none⟩ u2).setCell ⟨B, 3, none⟩ u3) :=
  (((h.setCell hn _).setCell hn _).setCell hn _).setCell hn _
theorem keeps_set4 {W0 W : World} {n : Nat} (h : KeepsFrom n W0 W) (B : Nat) (u0 u1 u2 u3 : Value) :
    KeepsFrom n W0 ((((W.setCell ⟨B, 0, none⟩ u0).setCell ⟨B, 1, none⟩ u1).setCell ⟨B, 2, none⟩ u2).setCell ⟨B, 3, none⟩ u3) :=
  h.trans (((((KeepsOthers.setCell _ _ _).trans (KeepsOthers.setCell _ _ _)).trans (KeepsOthers.setCell _ _ _)).trans (KeepsOthers.setCell _ _ _)).from n)
theorem keeps_below {n : Nat} {W W1 : World} (h : Below W.heap.size W W1) : KeepsFrom n W W1 :=
  ⟨h.size, fun k _ _ hk _ => (h.block k (Array.getElem?_eq_some_iff.1 hk).1).trans hk⟩
theorem kpB_far {B : Nat} {W W1 : World} (h : KpB B W W1) (p : Addr) (v : Value) (hne : B ≠ p.block) : KpB B W (W1.setCell p v) := (Below.heap_setCell _ _ _ _ hne).trans h
theorem kpB_far4 {B B' : Nat} {W W1 : World} (h : KpB B W W1) (hne : B ≠ B') (u0 u1 u2 u3 : Value) :
    KpB B W ((((W1.setCell ⟨B', 0, none⟩ u0).setCell ⟨B', 1, none⟩ u1).setCell ⟨B', 2, none⟩ u2).setCell ⟨B', 3, none⟩ u3) :=
  kpB_far (kpB_far (kpB_far (kpB_far h _ _ hne) _ _ hne) _ _ hne) _ _ hne
theorem Blk.putObj {W : World} {B D : Nat} {cs : Array Value} {t : TypeId} {o : Obj} (h : Blk W B cs t) (hD : W.heap[D]? = some o) (ho : o.isCells = false) (o' : Obj) : Blk (W.putObj D o') B cs t := by
  refine (World.putObj_heap_other (fun e => ?_)).trans h
  subst e
  rw [show W.heap[B]? = _ from h] at hD; cases hD; cases ho
theorem below_putObj {w W : World} {D : Nat} {o : Obj} (h : Below w.heap.size w W) (hD : w.heap.size ≤ D) (hK : W.heap[D]? = some o) (ho : o.isCells = false) (hw : o.isWalk = false) (o' : Obj) : Below w.heap.size w (W.putObj D o') :=
  h.trans (belowK_b (w := w) (Nat.le_refl _) W D _ _ hD hK ho hw)
theorem Blk.ownkept {X Y : World} {row : Option Nat} {B : Nat} {cs : Array Value} {t : TypeId} {n : Nat} (h : Blk X B cs t) (hg : X.grownBy Y row) (hrow : ∀ r, row = some r → n ≤ r ∧ ∃ o : Obj, X.heap[r]? = some o ∧ o.isCells = false) : Blk Y B cs t := by
  refine h.kept hg (fun e' => ?_)
  obtain ⟨_, o, ho, hc⟩ := hrow B e'.symm
  rw [show X.heap[B]? = _ from h] at ho; cases ho; cases hc
theorem below_ownkept {w X Y : World} {row : Option Nat} {n : Nat} (h : Below w.heap.size w X) (hn : w.heap.size ≤ n) (hg : X.grownBy Y row) (hrow : ∀ r, row = some r → n ≤ r ∧ ∃ o : Obj, X.heap[r]? = some o ∧ o.isCells = false) : Below w.heap.size w Y :=
  h.grown hg h.size (fun k e => Nat.le_trans hn (hrow k e).1)
theorem Lowest_in (F : Fence) (hF : FW F) (m : MK) (hm : mok m) (n : Int) (h0 : 0 ≤ n) (hn : n ≤ ((upTo m 256).length : Int)) (w : World) : CallsIn F 5 Tryd.prog 26 #[mv m, .int .i64 n] w fun e w' => e = .returned (.tuple #[mv (lowM ((upTo m 256).take n.toNat)), .int .i64 0]) ∧ Below w.heap.size w w' := by
  have hw := hF.fn
  have hro := hF.round
  refine callsIn_of_wp_marks Tryd.func26 rfl (hw _) ?_ hro
  simp only [Tryd.ntmps26, List.size_toArray, List.length_cons, List.length_nil, Nat.reduceAdd, Nat.reduceSub, Array.replicate_succ, Array.replicate_zero, List.push_toArray, List.append_toArray, List.nil_append, List.cons_append]
  unfold mv
  have HM := Lib.hid hm
  clear hm
  gi_wp2
  gi_region_with (gi_at_call 18; refine (hF.of (Count_any m HM.out _)).mono ?_; rintro e w1 ⟨rfl, hb⟩; obtain ⟨hc, hf⟩ := bcell hb; have hz0 : w.heap.size < w1.heap.size := (by have := hb.size; simp at this; omega); have hz1 : w.heap.size + 1 < w1.heap.size := (by have := hb.size; simp at this; omega); have hz2 : w.heap.size + 1 + 1 < w1.heap.size := (by have := hb.size; simp at this; omega))
  all_goals gi_wp2_with (gi_at_call 39; refine (hF.of (cores_any m _)).mono ?_; rintro e w' ⟨rfl, rfl⟩)
  all_goals
    have hW1 : Below w.heap.size w w1 := ((((((Below.refl _ w).alloc (Nat.le_refl _) _).alloc (by simp) _).alloc (by simp; omega) _).drew).trans (hb.mono (by simp; omega)))
    have k3 := (((Blk.new (w.alloc (.cells #[.int .u64 m.1, .int .u64 m.2.1, .int .u64 m.2.2.1, .int .u64 m.2.2.2] 27)) #[.int .i64 n] 3).alloc (.cells #[.int .u64 0, .int .u64 0, .int .u64 0, .int .u64 0] 27)).drew.below hb (by simp))
    have k4 := ((Blk.new ((w.alloc (.cells #[.int .u64 m.1, .int .u64 m.2.1, .int .u64 m.2.2.1, .int .u64 m.2.2.2] 27)).alloc (.cells #[.int .i64 n] 3)) #[.int .u64 0, .int .u64 0, .int .u64 0, .int .u64 0] 27).drew.below hb (by simp))
    rw [World.size_alloc] at k3
    rw [World.size_alloc, World.size_alloc] at k4
    have k6 := Blk.new w1 #[.int .u64 0, .int .u64 0, .int .u64 0, .int .u64 0] 27
    have km := Blk.new (w1.alloc (.cells #[.int .u64 0, .int .u64 0, .int .u64 0, .int .u64 0] 27)) #[.int .u64 m.1, .int .u64 m.2.1, .int .u64 m.2.2.1, .int .u64 m.2.2.2] 27
    rw [World.size_alloc] at km
    have HZ := Lib.hid (And.intro hz0 (And.intro hz1 hz2))
    have HN := Lib.hid (And.intro h0 hn)
    have hn9 : n ≤ 256 := by have := upTo_length m 256; omega
    clear hb hc hf hn
    refine wpIn_rangeFunc_ownG hro (by omega) (gf := 52) (lb := #[.pointer (some ⟨w1.heap.size + 1, 0, none⟩)]) rfl (hw _) (enters_of Tryd.func52 (by kernel_rfl) rfl)
      (cores_stops F hF _ (by omega) m HM.out (w1.heap.size + 1) _ km) KpB_t (KpB_b (by simp)) (Below.refl _ _) (fun _ => rfl)
      (fun pre W => Blk W (w.heap.size + 1) #[.int .i64 (n - (pre.length : Nat))] 3 ∧ Blk W (w.heap.size + 1 + 1) #[.int .u64 0, .int .u64 0, .int .u64 0, .int .u64 0] 27 ∧ Blk W w1.heap.size #[.int .u64 (lowM pre).1, .int .u64 (lowM pre).2.1, .int .u64 (lowM pre).2.2.1, .int .u64 (lowM pre).2.2.2] 27 ∧ ((pre.length : Nat) : Int) ≤ n ∧ w1.heap.size + 1 < W.heap.size ∧ Below w.heap.size w W)
      (fun c pre W => c = .exit 1 ∧ (∃ pre' x', pre = pre' ++ [x'] ∧ ((pre'.length : Nat) : Int) = n ∧ Blk W w1.heap.size #[.int .u64 (lowM pre').1, .int .u64 (lowM pre').2.1, .int .u64 (lowM pre').2.2.1, .int .u64 (lowM pre').2.2.2] 27) ∧ Blk W (w.heap.size + 1 + 1) #[.int .u64 0, .int .u64 0, .int .u64 0, .int .u64 0] 27 ∧ Below w.heap.size w W)
      (fun s X Y row hs hg hr => ⟨hs.1.ownkept hg hr, hs.2.1.ownkept hg hr, hs.2.2.1.ownkept hg hr, hs.2.2.2.1, Nat.lt_of_lt_of_le hs.2.2.2.2.1 hg.size, below_ownkept hs.2.2.2.2.2 (by simp; omega) hg hr⟩)
      (fun c s X Y row hs hg hr => by
        obtain ⟨hc, ⟨p, x', e1, e2, hk⟩, hz, hb⟩ := hs
        exact ⟨hc, ⟨p, x', e1, e2, hk.ownkept hg hr⟩, hz.ownkept hg hr, below_ownkept hb (by simp; omega) hg hr⟩)
      ⟨by simpa using (k3.alloc _).alloc _, (k4.alloc _).alloc _, k6.alloc _, by simpa using HN.out.1, by simp, (hW1.alloc (by omega) _).alloc (by simp; omega) _⟩
      (fun x => { tmps := #[.agg #[.int .u64 m.1, .int .u64 m.2.1, .int .u64 m.2.2.1, .int .u64 m.2.2.2], .int .i64 n, .pointer (some ⟨w.heap.size, 0, none⟩), .pointer (some ⟨w.heap.size + 1, 0, none⟩), .pointer (some ⟨w.heap.size + 1 + 1, 0, none⟩), .int .i64 0, .pointer (some ⟨w1.heap.size, 0, none⟩), .int .i64 ((x.1 : Nat) : Int), .bool (decide (n < 0)),
          .int .i64 n, .bool (decide (n < 0)), undef, .bool (decide (((upTo m 256).length : Int) < n)), .int .i64 n, .agg #[.int .u64 m.1, .int .u64 m.2.1, .int .u64 m.2.2.1, .int .u64 m.2.2.2], .int .i64 ((upTo m 256).length : Nat), .bool (decide (((upTo m 256).length : Int) < n)), undef, .agg #[.int .u64 m.1, .int .u64 m.2.1, .int .u64 m.2.2.1, .int .u64 m.2.2.2], .func (.func 52) #[] #[.pointer (some ⟨w1.heap.size + 1, 0, none⟩)], .int .i64 ((x.1 : Nat) : Int), undef, undef, undef, undef, undef, undef, undef, undef], defers := [] }) ?assign ?body ?done ?stop
    case assign =>
      intro l x W K hK
      gi_wp2
      exact hK
    case body =>
      rintro l pre x W ⟨i3, i4, i6, ile, ilt, iB⟩ hlen
      have c3 := i3.cell 0 _ rfl
      have f3 := i3.frozen 0
      obtain ⟨c60, c61, c62, c63, f60, f61, f62, f63⟩ := i6.all4
      have l3 := i3.lt
      have l6 := i6.lt
      have HI := Lib.hid (And.intro i3 (And.intro i4 (And.intro i6 (And.intro ile iB))))
      clear i3 i4 i6 iB k3 k4 k6 km hW1
      by_cases hz : n - (pre.length : Nat) = 0
      · have hzb : (n - (pre.length : Int) == 0) = true := by simpa using hz
        have HZ2 := Lib.hid hz
        clear hz
        gi_wp2
        exact ⟨KeepsFrom.refl _ _, rfl, ⟨pre, x, rfl, by have := HZ2.out; omega, HI.out.2.2.1⟩, HI.out.2.1, HI.out.2.2.2.2⟩
      · have hzb : (n - (pre.length : Int) == 0) = false := by simpa using hz
        have hpos : (pre.length : Int) + 1 ≤ n := by omega
        have hx := x.2
        clear hz
        gi_wp2_with (gi_at_call 35; refine (CallsIn.inRound l (hF.of (with_any (lowM pre) (mok_lowM pre) _ (by omega) (by omega) _))).mono ?_; rintro e w2 ⟨rfl, hb2⟩; obtain ⟨hc2, hf2⟩ := bcell hb2; dsimp only [mv])
        refine ⟨(keeps_set4 (keeps_below hb2) _ _ _ _ _).trans ((KeepsOthers.setCell _ _ _).from _), kpB_far (kpB_far4 (hb2.block _ ilt) (by omega) _ _ _ _) _ _ (by simp; omega), ?_, ?_, ?_, by simp; omega, ?_, ?_⟩
        · have e : n - ((pre ++ [x]).length : Nat) = n - (pre.length : Int) - 1 := by simp; omega
          rw [e]; exact ((HI.out.1.below hb2 l3).far4 (by omega) _ _ _ _).set 0 _
        · exact ((HI.out.2.1.below hb2 HI.out.2.1.lt).far4 (by omega) _ _ _ _).far _ _ (by simp)
        · rw [lowM_snoc]; exact ((HI.out.2.2.1.below hb2 l6).set4 _ _ _ _).far _ _ (by simp; omega)
        · have := hb2.size; simp; omega
        · exact (below_set4 (HI.out.2.2.2.2.trans (hb2.mono HI.out.2.2.2.2.size)) (by omega) _ _ _ _).setCell (by simp) _
    case done =>
      rintro D ys W hD rfl ⟨i3, i4, i6, ile, ilt, iB⟩ hK
      obtain ⟨c60, c61, c62, c63, f60, f61, f62, f63⟩ := i6.all4
      obtain ⟨c40, c41, c42, c43, f40, f41, f42, f43⟩ := i4.all4
      have hlist : (upTo m 256).take n.toNat = upTo m 256 := List.take_of_length_le (by omega)
      have HI := Lib.hid (And.intro i4 (And.intro i6 iB))
      have HK := Lib.hid hK
      clear i3 i4 i6 iB hK k3 k4 k6 km hW1
      gi_wp2
      have hK' := (keeps_set4 (KeepsFrom.refl D W) (w.heap.size + 1 + 1) (.int .u64 (lowM (upTo m 256)).1) (.int .u64 (lowM (upTo m 256)).2.1) (.int .u64 (lowM (upTo m 256)).2.2.1) (.int .u64 (lowM (upTo m 256)).2.2.2)).same D _ (Nat.le_refl _) HK.out rfl
      have h9 := (HI.out.1.set4 (.int .u64 (lowM (upTo m 256)).1) (.int .u64 (lowM (upTo m 256)).2.1) (.int .u64 (lowM (upTo m 256)).2.2.1) (.int .u64 (lowM (upTo m 256)).2.2.2)).putObj hK' rfl (.deferred none)
      refine ⟨by simp, .inl ⟨_, _, rfl, run_takeDeferred hK', ?_⟩⟩
      rw [hlist]
      exact ⟨.tuple #[.agg #[.int .u64 (lowM (upTo m 256)).1, .int .u64 (lowM (upTo m 256)).2.1, .int .u64 (lowM (upTo m 256)).2.2.1, .int .u64 (lowM (upTo m 256)).2.2.2], .int .i64 0], by simp [results, Tryd.results26, go_sem, h9.cell 0 _ rfl, h9.cell 1 _ rfl, h9.cell 2 _ rfl, h9.cell 3 _ rfl], rfl, below_putObj (below_set4 HI.out.2.2 (by omega) _ _ _ _) (by simp at hD; omega) hK' rfl rfl _⟩
    case stop =>
      rintro D c pre W hD hpre ⟨rfl, ⟨p, x', rfl, e2, i6⟩, i4, iB⟩ hK
      obtain ⟨c60, c61, c62, c63, f60, f61, f62, f63⟩ := i6.all4
      obtain ⟨c40, c41, c42, c43, f40, f41, f42, f43⟩ := i4.all4
      have hlist : (upTo m 256).take n.toNat = p := by
        have h1 : p <+: upTo m 256 := (List.prefix_append p [x']).trans hpre
        rw [List.prefix_iff_eq_take.1 h1]
        congr 1
        omega
      have HL := Lib.hid hlist
      have HI := Lib.hid (And.intro i4 (And.intro i6 iB))
      have HK := Lib.hid hK
      clear i4 i6 iB e2 hpre hK k3 k4 k6 km hW1 hlist
      gi_wp2
      have hK' := (keeps_set4 (KeepsFrom.refl D W) (w.heap.size + 1 + 1) (.int .u64 (lowM (p)).1) (.int .u64 (lowM (p)).2.1) (.int .u64 (lowM (p)).2.2.1) (.int .u64 (lowM (p)).2.2.2)).same D _ (Nat.le_refl _) HK.out rfl
      have h9 := (HI.out.1.set4 (.int .u64 (lowM (p)).1) (.int .u64 (lowM (p)).2.1) (.int .u64 (lowM (p)).2.2.1) (.int .u64 (lowM (p)).2.2.2)).putObj hK' rfl (.deferred none)
      refine ⟨by simp, .inl ⟨_, _, rfl, run_takeDeferred hK', ?_⟩⟩
      rw [HL.out]
      exact ⟨.tuple #[.agg #[.int .u64 (lowM (p)).1, .int .u64 (lowM (p)).2.1, .int .u64 (lowM (p)).2.2.1, .int .u64 (lowM (p)).2.2.2], .int .i64 0], by simp [results, Tryd.results26, go_sem, h9.cell 0 _ rfl, h9.cell 1 _ rfl, h9.cell 2 _ rfl, h9.cell 3 _ rfl], rfl, below_putObj (below_set4 HI.out.2.2 (by omega) _ _ _ _) (by simp at hD; omega) hK' rfl rfl _⟩
/-- (Mask).Lowest, of any mask and number. -/
def lowRes (m : MK) (n : Int) : MK × Int := if n < 0 then (mk0, 1) else if ((upTo m 256).length : Int) < n then (mk0, 12) else (lowM ((upTo m 256).take n.toNat), 0)
theorem Lowest_any (m : MK) (hm : mok m) (n : Int) (w : World) : Calls Tryd.prog 26 #[mv m, .int .i64 n] w fun e w' => e = .returned (.tuple #[mv (lowRes m n).1, .int .i64 (lowRes m n).2]) ∧ Below w.heap.size w w' := by
  unfold lowRes
  by_cases h : n < 0
  · rw [if_pos h]; exact Lowest_neg m n h w
  · by_cases h2 : ((upTo m 256).length : Int) < n
    · rw [if_neg h, if_pos h2]; exact Lowest_few m hm n (by omega) h2 w
    · rw [if_neg h, if_neg h2]; exact callsIn_wide.1 (Lowest_in _ FW.wide m hm n (by omega) (by omega) w)
end Go.Proofs.YtbjeaebgnnljhaaDoor
