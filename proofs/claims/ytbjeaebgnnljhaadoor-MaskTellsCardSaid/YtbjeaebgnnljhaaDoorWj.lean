/- WALKS: strings.SplitSeq at a comma: an iterator that keeps what is left in a box of its own; a law for a loop over such an iterator. -/
import Derived.Maps.AppendAt
import Derived.Test.YtbjeaebgnnljhaaDoorWi
namespace Go.Proofs.YtbjeaebgnnljhaaDoor
open Go.RowKit Go.Shelf
attribute [local go_sem] Oper.semAt_some
set_option maxHeartbeats 1000000
set_option maxRecDepth 100000

/-- A text cut at each comma. -/
def splitC : List UInt8 → List (List UInt8)
  | [] => [[]]
  | c :: r => if c = 44 then [] :: splitC r else (c :: (splitC r).headD []) :: (splitC r).tail
theorem splitC_ne (l : List UInt8) : splitC l ≠ [] := by
  cases l with
  | nil => simp [splitC]
  | cons c r => unfold splitC; split <;> simp
theorem headD_tail (l : List (List UInt8)) (h : l ≠ []) : l.headD [] :: l.tail = l := by cases l <;> simp_all
theorem splitC_miss : ∀ l : List UInt8, Lib.indexByte l 44 = -1 → splitC l = [l]
  | [], _ => rfl
  | c :: r, h => by
    unfold Lib.indexByte at h
    by_cases hc : c = 44
    · subst hc; simp at h
    · have h2 : Lib.indexByte r 44 = -1 := by
        have hb : (c == 44) = false := by simpa using hc
        rw [hb] at h
        by_cases e : Lib.indexByte r 44 = -1
        · exact e
        · have := Lib.indexByte_ge r 44
          simp [e] at h; omega
      unfold splitC
      rw [if_neg hc, splitC_miss r h2]; rfl
theorem splitC_hit : ∀ (l : List UInt8) (i : Nat), Lib.indexByte l 44 = i → i < l.length ∧ splitC l = l.take i :: splitC (l.drop (i + 1))
  | [], i, h => by unfold Lib.indexByte at h; omega
  | c :: r, i, h => by
    unfold Lib.indexByte at h
    by_cases hc : c = 44
    · subst hc
      have hi : i = 0 := by simp at h; omega
      subst hi
      exact ⟨by simp, by simp [splitC]⟩
    · have hb : (c == 44) = false := by simpa using hc
      rw [hb] at h
      by_cases e : Lib.indexByte r 44 = -1
      · simp [e] at h
      · have he : (Lib.indexByte r 44 == -1) = false := by simpa using e
        rw [he] at h
        have hg := Lib.indexByte_ge r 44
        obtain ⟨j, hj⟩ := Int.eq_ofNat_of_zero_le (show 0 ≤ Lib.indexByte r 44 by omega)
        have hij : i = j + 1 := by simp at h; omega
        subst hij
        obtain ⟨h1, h2⟩ := splitC_hit r j hj
        refine ⟨by simp; omega, ?_⟩
        have e3 : splitC (c :: r) = (c :: (splitC r).headD []) :: (splitC r).tail := by rw [splitC, if_neg hc]
        rw [e3, h2]
        simp

/-- A piece. -/
abbrev Piece := { s : ByteArray // s.size < 4294967281 }
/-- What an iterator with a box of its own promises: as SeqStopsK, to an invariant that does not mind what that box holds. -/
def SeqBoxK {α : Type} (F : Fence) (n : Nat) (P : Program) (g : Nat) (lb : Array Value) (encs : α → Array Value) (Kp : World → World → Prop) (S Sp : List α → Prop) (N Bs : Nat) (w : World) : Prop :=
  ∀ (l : Nat) (J Jx : List α → World → Prop) (W : World), Below w.heap.size w W → AbidesFrom W.heap.size J →
    (∀ s X u, J s X → J s (X.setCell ⟨Bs, 0, none⟩ u)) →
    (∀ pre x W1, J pre W1 → pre.length < N → YieldAt F (n - 1) P l (encs x) W1 fun e W' =>
      (e = .returned (.bool true) ∧ J (pre ++ [x]) W' ∧ Kp W1 W') ∨ (e = .returned (.bool false) ∧ Jx (pre ++ [x]) W')) →
    J [] W →
    CallsIn F n P g (#[.func (.yield l) #[] #[]] ++ lb) W fun e W' => (∃ v, e = .returned v) ∧ ((∃ xs, S xs ∧ J xs W') ∨ (∃ pre, Sp pre ∧ Jx pre W'))

/-- What a round keeps: the iterator's three boxes. -/
def Kp3 (A B C : Nat) (W W' : World) : Prop := KpB A W W' ∧ KpB B W W' ∧ KpB C W W'
def sizeAt (Bs : Nat) (W : World) : Nat := match W.cell? ⟨Bs, 0, none⟩ with | some (.string c) => c.size | _ => 0
theorem sizeAt_eq {Bs : Nat} {W : World} {c : ByteArray} (h : Boxed W Bs 9 (.string c)) : sizeAt Bs W = c.size := by
  unfold sizeAt; rw [h.cell]

theorem split1_in (F : Fence) (hF : FW F) (n : Nat) (hn : 1 ≤ n) (s0 : ByteArray) (hs0 : s0.size < 4294967281) (l Bp Bs Bv : Nat) (hps : Bp ≠ Bs) (hvs : Bv ≠ Bs) (J Jx : List Piece → World → Prop)
    (hY : ∀ pre x W, J pre W → pre.length < s0.size + 1 → YieldAt F (n - 1) Tryd.prog l #[.string x.1] W fun e W' =>
      (e = .returned (.bool true) ∧ J (pre ++ [x]) W' ∧ Kp3 Bp Bs Bv W W') ∨ (e = .returned (.bool false) ∧ Jx (pre ++ [x]) W'))
    (W : World) (hJs : ∀ s X u, J s X → J s (X.setCell ⟨Bs, 0, none⟩ u)) (hBp : Boxed W Bp 9 (.string ⟨#[44]⟩)) (hBs : Boxed W Bs 9 (.string s0)) (hBv : Boxed W Bv 3 (.int .i64 0)) (h0 : J [] W) :
    CallsIn F n Tryd.prog 60 #[.func (.yield l) #[] #[], .pointer (some ⟨Bp, 0, none⟩), .pointer (some ⟨Bs, 0, none⟩), .pointer (some ⟨Bv, 0, none⟩)] W fun e W' => (∃ v, e = .returned v) ∧
      ((∃ ys : List Piece, (ys.map fun x => x.1.data.toList) = splitC s0.data.toList ∧ J ys W') ∨ (∃ pre : List Piece, (pre.map fun x => x.1.data.toList) <+: splitC s0.data.toList ∧ Jx pre W')) := by
  have hw := hF.fn
  have hro := hF.round
  refine callsIn_of_wp Tryd.func60 rfl (hw _) ?_ hro
  simp only [Tryd.ntmps60, List.size_toArray, List.length_cons, List.length_nil, Nat.reduceAdd, Nat.reduceSub, Array.replicate_succ, Array.replicate_zero, List.push_toArray, List.append_toArray, List.nil_append, List.cons_append]
  have cp := hBp.cell
  have cs := hBs.cell
  have HB := Lib.hid (And.intro hBp (And.intro hBs (And.intro hBv h0)))
  clear hBp hBs hBv h0
  gi_wp2
  gi_loopw [7, 8, 29, 30, 31, 32, 33, 34, 35, 36, 37, 38, 39, 40, 41, 42, 43, 44, 45, 46, 47, 48] (fun _ _ _ _ _ _ _ _ _ _ _ _ _ _ _ _ _ _ _ _ _ _ wr => ∃ (pre : List Piece) (cur : ByteArray), J pre wr ∧ Boxed wr Bp 9 (.string ⟨#[44]⟩) ∧ Boxed wr Bs 9 (.string cur) ∧ Boxed wr Bv 3 (.int .i64 0) ∧ pre.length + cur.size ≤ s0.size ∧ (pre.map fun x => x.1.data.toList) ++ splitC cur.data.toList = splitC s0.data.toList)
    (fun _ _ _ _ _ _ _ _ _ _ _ _ _ _ _ _ _ _ _ _ _ _ wr => sizeAt Bs wr)
  case atStart => exact ⟨[], s0, HB.out.2.2.2, HB.out.1, HB.out.2.1, HB.out.2.2.1, by simp, by simp⟩
  case round =>
    obtain ⟨pre, cur, hJp, h1, h2, h3, hsz, hsp⟩ := hrel
    have c1 := h1.cell
    have c2 := h2.cell
    have c3 := h3.cell
    have f2 := h2.frozen
    clear cp cs
    by_cases hi : Lib.indexByte cur.data.toList 44 = -1
    · have HI := Lib.hid hi
      have HS := Lib.hid (And.intro (splitC_miss _ hi) hsp)
      have hcs : cur.size < 4294967281 := by omega
      obtain ⟨fn, tmps, assign, body, hy, hR⟩ := hY pre ⟨cur, hcs⟩ wr hJp (by omega)
      dsimp only at hy
      have HR := Lib.hid (And.intro hJp (And.intro h1 (And.intro h2 h3)))
      clear hi hsp hJp h1 h2 h3
      gi_wp2_with (gi_at_call 62; refine (hF.of (Tryd.strings_Index_one cur 44 _)).mono ?_; rintro e w2 ⟨rfl, rfl⟩; rw [HI.out])
      refine hR.mono ?_
      have hend : (pre ++ [(⟨cur, hcs⟩ : Piece)]).map (fun x => x.1.data.toList) = splitC s0.data.toList := by
        rw [List.map_append, ← HS.out.2, HS.out.1]; rfl
      have HN := Lib.hid hend
      clear hend
      rintro e W3 (⟨rfl, hJ3, hk3⟩ | ⟨rfl, hJx3⟩)
      · gi_wp2
        go_end0
        exact ⟨⟨_, rfl⟩, .inl ⟨_, HN.out, hJ3⟩⟩
      · gi_wp2
        go_end0
        exact ⟨⟨_, rfl⟩, .inr ⟨_, HN.out ▸ List.prefix_rfl, hJx3⟩⟩
    · have hg := Lib.indexByte_ge cur.data.toList 44
      obtain ⟨i, hi2⟩ := Int.eq_ofNat_of_zero_le (show 0 ≤ Lib.indexByte cur.data.toList 44 by omega)
      obtain ⟨hlt, hsp2⟩ := splitC_hit _ i hi2
      have HI := Lib.hid hi2
      have hlt' : i < cur.size := by simpa using hlt
      have hcs : cur.size < 4294967281 := by omega
      have HS := Lib.hid (And.intro hsp2 hsp)
      have hxs : (cur.extract 0 i).size < 4294967281 := by simp; omega
      obtain ⟨fn, tmps, assign, body, hy, hR⟩ := hY pre ⟨cur.extract 0 i, hxs⟩ wr hJp (by omega)
      dsimp only at hy
      have HR := Lib.hid (And.intro hJp (And.intro h1 (And.intro h2 h3)))
      clear hi hi2 hg hsp hsp2 hJp h1 h2 h3 hlt
      gi_wp2_with (gi_at_call 62; refine (hF.of (Tryd.strings_Index_one cur 44 _)).mono ?_; rintro e w2 ⟨rfl, rfl⟩; rw [HI.out])
      refine hR.mono ?_
      rintro e W3 (⟨rfl, hJ3, hk1, hk2, hk3⟩ | ⟨rfl, hJx3⟩)
      · have b1 : Boxed W3 Bp 9 (.string ⟨#[44]⟩) := Eq.trans hk1 HR.out.2.1
        have b2 : Boxed W3 Bs 9 (.string cur) := Eq.trans hk2 HR.out.2.2.1
        have b3 : Boxed W3 Bv 3 (.int .i64 0) := Eq.trans hk3 HR.out.2.2.2
        have d1 := b1.cell
        have d2 := b2.cell
        have d3 := b3.cell
        have g2 := b2.frozen
        have HR3 := Lib.hid (And.intro hJ3 (And.intro b1 (And.intro b2 b3)))
        have hnew : (cur.extract (i + 1) cur.size).data.toList = cur.data.toList.drop (i + 1) := by
          rw [ByteArray.data_extract]; simp; exact List.take_of_length_le (by simp)
        have hold : (cur.extract 0 i).data.toList = cur.data.toList.take i := by
          rw [ByteArray.data_extract]; simp
        have HN := Lib.hid (And.intro hnew hold)
        have HZ := Lib.hid (And.intro hlt' hsz)
        clear hJ3 hk1 hk2 hk3 b1 b2 b3 hnew hold
        gi_wp2
        go_roundw
        case rel =>
          refine ⟨pre ++ [⟨cur.extract 0 i, hxs⟩], cur.extract (i + 1) cur.size, hJs _ _ _ HR3.out.1, Blk.far (cs := #[.string ⟨#[44]⟩]) HR3.out.2.1 _ _ hps, HR3.out.2.2.1.set _, Blk.far (cs := #[.int .i64 0]) HR3.out.2.2.2 _ _ hvs, ?_, ?_⟩
          · have h1 := HZ.out.1
            have h2 := HZ.out.2
            simp; omega
          · rw [HN.out.1, ← HS.out.2, HS.out.1, List.map_append, List.map_singleton, HN.out.2]
            simp
        case measure =>
          rw [sizeAt_eq (HR3.out.2.2.1.set _), sizeAt_eq HR.out.2.2.1]
          have h1 := HZ.out.1
          simp; omega
      · gi_wp2
        refine bodyPost_ret (results_none rfl _ _ _) rfl ?_
        refine ⟨⟨_, rfl⟩, .inr ⟨_, ?_, hJx3⟩⟩
        have hold : (cur.extract 0 i).data.toList = cur.data.toList.take i := by
          rw [ByteArray.data_extract]; simp
        rw [← HS.out.2, HS.out.1, List.map_append, List.map_singleton, hold]
        exact ⟨_, by rw [List.append_assoc]; rfl⟩

theorem splitSeq_any (s : ByteArray) (w : World) : Calls Tryd.prog 53 #[.string s, .string ⟨#[44]⟩, .int .i64 0] w fun e w' => e = .returned (.func (.func 60) #[] #[.pointer (some ⟨w.heap.size + 1, 0, none⟩), .pointer (some ⟨w.heap.size, 0, none⟩), .pointer (some ⟨w.heap.size + 1 + 1, 0, none⟩)]) ∧
    w' = ((w.alloc (.cells #[.string s] 9)).alloc (.cells #[.string ⟨#[44]⟩] 9)).alloc (.cells #[.int .i64 0] 3) := by
  go_enter Tryd.func53, Tryd.ntmps53
  go_wp2
  go_ret
  exact ⟨rfl, rfl⟩
theorem SplitSeq_any (s : ByteArray) (w : World) : Calls Tryd.prog 40 #[.string s, .string ⟨#[44]⟩] w fun e w' => e = .returned (.func (.func 60) #[] #[.pointer (some ⟨w.heap.size + 1, 0, none⟩), .pointer (some ⟨w.heap.size, 0, none⟩), .pointer (some ⟨w.heap.size + 1 + 1, 0, none⟩)]) ∧
    w' = ((w.alloc (.cells #[.string s] 9)).alloc (.cells #[.string ⟨#[44]⟩] 9)).alloc (.cells #[.int .i64 0] 3) := by
  go_enter Tryd.func40, Tryd.ntmps40
  go_wp2_with (go_at_call 53; refine (splitSeq_any s _).mono ?_; rintro e w1 ⟨rfl, rfl⟩)
  go_ret
  exact ⟨rfl, rfl⟩

theorem split_stops (F : Fence) (hF : FW F) (n : Nat) (hn : 1 ≤ n) (s0 : ByteArray) (hs0 : s0.size < 4294967281) (Bp Bs Bv : Nat) (hps : Bp ≠ Bs) (hvs : Bv ≠ Bs) (w : World)
    (hBp : Boxed w Bp 9 (.string ⟨#[44]⟩)) (hBs : Boxed w Bs 9 (.string s0)) (hBv : Boxed w Bv 3 (.int .i64 0)) :
    SeqBoxK F n Tryd.prog 60 #[.pointer (some ⟨Bp, 0, none⟩), .pointer (some ⟨Bs, 0, none⟩), .pointer (some ⟨Bv, 0, none⟩)] (fun x : Piece => #[Value.string x.1]) (Kp3 Bp Bs Bv) (fun ys => (ys.map fun x => x.1.data.toList) = splitC s0.data.toList) (fun pre => (pre.map fun x => x.1.data.toList) <+: splitC s0.data.toList) (s0.size + 1) Bs w := fun l J Jx W hW _ hJs hY h0 =>
  split1_in F hF n hn s0 hs0 l Bp Bs Bv hps hvs J Jx hY W hJs (Blk.below (cs := #[.string ⟨#[44]⟩]) hBp hW hBp.lt) (Blk.below (cs := #[.string s0]) hBs hW hBs.lt) (Blk.below (cs := #[.int .i64 0]) hBv hW hBv.lt) h0

/-- A LOOP OVER AN ITERATOR THAT KEEPS ITS STATE IN A BOX Bs OF ITS OWN: whatever the body's invariant says of cells, it does not mind that box. -/
theorem wpIn_rangeFunc_box {α : Type} {F : Fence} {n : Nat} {g : Operand} {ps : Array Tmp} {assign body : Code} {Q : Exit → Act → World → Prop} {a : Act} {w : World}
    (hro : F.round = none) (h1 : 1 ≤ n) {gf : Nat} {lb : Array Value} (hg : a.eval g = .func (.func gf) #[] lb) (hFg : F.fn gf) (eg : ∀ args w, (callFunc gf args).run Tryd.prog w = .ok (.enter gf args) w)
    {encs : α → Array Value} {Kp : World → World → Prop} {S Sp : List α → Prop} {N Bs : Nat} (hseq : SeqBoxK F (n - 1) Tryd.prog gf lb encs Kp S Sp N Bs w) (hBs : Bs < w.heap.size)
    (hKt : ∀ {A B C : World}, Kp A B → Kp B C → Kp A C) (hKb : ∀ (W : World) (l : Nat) (o' : Obj), w.heap.size ≤ l → Kp W (W.putObj l o')) (hps : ∀ x, (encs x).size = ps.size)
    (I : List α → World → Prop) (Ix : Code → List α → World → Prop) (hI : OwnFrom w.heap.size I) (hIx : ∀ c, OwnFrom w.heap.size (Ix c)) (hIs : ∀ s X u, I s X → I s (X.setCell ⟨Bs, 0, none⟩ u)) (h0 : I [] w) (a₁ : α → Act)
    (hassign : ∀ (l : Nat) (x : α) (W : World) (K : Act → World → Prop), K (a₁ x) W →
      assign.wpIn (F.inRound l) (n - 1 - 1) Tryd.prog (Exit.then K (fun _ _ _ => False)) { tmps := (ps.zip (encs x)).foldl (fun t (p, v) => t.setIfInBounds p v) a.tmps, defers := [] } W)
    (hbody : ∀ (l : Nat) (pre : List α) (x : α) (W : World), I pre W → pre.length < N → body.wpIn (F.inRound l) (n - 1 - 1) Tryd.prog (ownPostG w.heap.size Kp I Ix (pre ++ [x]) W) (a₁ x) W)
    (hdone : ∀ (D : Nat) (xs : List α) (W : World), w.heap.size ≤ D → S xs → I xs W → W.heap[D]? = some (.deferred (some [])) → Q .normal { a with defers := { target := .collected D, args := #[] } :: a.defers } W)
    (hstop : ∀ (D : Nat) (c : Code) (pre : List α) (W : World), w.heap.size ≤ D → Sp pre → Ix c pre W → W.heap[D]? = some (.deferred (some [])) → c.wpIn F n Tryd.prog Q { a with defers := { target := .collected D, args := #[] } :: a.defers } W) :
    (Code.rangeFunc g ps assign body).wpIn F n Tryd.prog Q a w := by
  refine wpIn_rangeFunc fun fn hfn => ?_
  rw [hro]
  obtain ⟨R, hR⟩ : ∃ R : LoopState → Option Code → Loop, ∀ st pe, R st pe = { state := st, pending := pe, fn, tmps := a.tmps, params := ps, assign, body, defers := w.heap.size } := ⟨_, fun _ _ => rfl⟩
  have hst : ∀ st pe st', ({ R st pe with state := st' } : Loop) = R st' pe := fun st pe st' => by rw [hR, hR]
  have hsp : ∀ st pe st' pe', ({ R st pe with state := st', pending := pe' } : Loop) = R st' pe' := fun st pe st' pe' => by rw [hR, hR]
  have hlz : w.heap.size + 1 ≠ Bs := by omega
  have hDz : w.heap.size ≠ Bs := by omega
  -- THE TWO BLOCKS OF BOOK-KEEPING
  let Lp (st : LoopState) (pe : Option Code) (W : World) : Prop := W.heap[w.heap.size + 1]? = some (.loop (R st pe)) ∧ W.heap[w.heap.size]? = some (.deferred (some []))
  have far : ∀ (X : World) (u : Value) (k : Nat), k ≠ Bs → (X.setCell ⟨Bs, 0, none⟩ u).heap[k]? = X.heap[k]? := fun X u k hk => Below.heap_setCell X _ u k hk
  have turned : ∀ st pe (X Y : World) row, Lp st pe X → X.grownBy Y row → (∀ r, row = some r → ∃ o : Obj, X.heap[r]? = some o ∧ o.isWalk = true) → Lp st pe Y := fun st pe X Y row h hg hr =>
    ⟨(grownBy_keeps hg hr h.1 rfl).trans h.1, (grownBy_keeps hg hr h.2 rfl).trans h.2⟩
  have put : ∀ st pe st' pe' (W : World), Lp st pe W → Lp st' pe' (W.putObj (w.heap.size + 1) (.loop (R st' pe'))) := fun st pe st' pe' W h =>
    ⟨World.putObj_heap_same (Array.getElem?_eq_some_iff.1 h.1).1, (World.putObj_heap_other (by omega)).trans h.2⟩
  obtain ⟨W1, hW1⟩ : ∃ W1, (w.alloc (.deferred (some []))).alloc (.loop (R .ready none)) = W1 := ⟨_, rfl⟩
  have hb1 : Below w.heap.size w W1 := by rw [← hW1]; exact ((Below.refl _ w).alloc (Nat.le_refl _) _).alloc (by simp) _
  have hz1 : W1.heap.size = w.heap.size + 1 + 1 := by rw [← hW1]; simp
  have hP1 : Lp .ready none W1 := by
    rw [← hW1]
    have h := World.alloc_heap_new (w.alloc (.deferred (some []))) (.loop (R .ready none))
    rw [World.size_alloc] at h
    exact ⟨h, (Below.heap_alloc _ _ _ (by simp)).trans (World.alloc_heap_new w _)⟩
  have hI1 : I [] W1 := by rw [← hW1]; exact hI.alloc _ (hI.alloc _ h0)
  have nw : ∀ {A : World} {row : Option Nat}, (∀ r, row = some r → W1.heap.size ≤ r ∧ ∃ o : Obj, A.heap[r]? = some o ∧ o.isWalk = true) → (∀ r, row = some r → w.heap.size ≤ r ∧ ∃ o : Obj, A.heap[r]? = some o ∧ o.isCells = false) := fun hr r e => by
    obtain ⟨hb, o, ho, hw⟩ := hr r e
    exact ⟨by omega, o, ho, Obj.not_cells_of_walk hw⟩
  refine ⟨w.heap.size + 1, [{ target := .collected w.heap.size, args := #[] }], W1, { target := .fn (.func gf) lb, args := #[.func (.yield (w.heap.size + 1)) #[] #[]] }, W1, gf,
    #[.func (.yield (w.heap.size + 1)) #[] #[]] ++ lb, W1, ?_, ?_, ?_, ?_, fun _ => h1, ?_⟩
  · rw [← hW1, hR]; exact run_enterLoop_outer _ _ _ _ _
  · simp only [resolve, hg]
    simp [go_sem]
  · intro f' hf'; simp [Target.leads] at hf'; subst hf'; exact hFg
  · simp [invoke, go_sem, eg]
  refine (hseq (w.heap.size + 1) (fun pre W => I pre W ∧ Lp .ready none W) (fun pre W => ∃ c, Ix c pre W ∧ Lp .done (some c) W) W1 hb1
    (fun s A B row hs hg' hr => ⟨hI s A B row hs.1 hg' (nw (A := A) hr), turned _ _ _ _ _ hs.2 hg' (fun r e => (hr r e).2)⟩)
    (fun s X u hs => ⟨hIs s X u hs.1, (far X u _ hlz).trans hs.2.1, (far X u _ hDz).trans hs.2.2⟩) ?_ ⟨hI1, hP1⟩).mono ?_
  · rintro pre x W ⟨hi, hp⟩ hlen
    have hlt : w.heap.size + 1 < W.heap.size := (Array.getElem?_eq_some_iff.1 hp.1).1
    have hy := run_yield (P := Tryd.prog) (args := encs x) hp.1 (by rw [hR]; exact hps x)
    rw [hR] at hy
    have hbr := run_beginRound (P := Tryd.prog) hp.1 (by rw [hR])
    rw [hst] at hbr
    refine ⟨fn, _, assign, body, hy, roundIn_of_wpIn hfn (hassign _ x W _ ⟨_, hbr, ?_⟩)⟩
    have hp2 := put _ _ .busy none W hp
    have hi2 : I pre (W.putObj (w.heap.size + 1) (.loop (R .busy none))) := hI.putObj _ hi (by omega) hp.1 rfl
    refine wpIn_mono (hbody _ pre x _ hi2 hlen) ?_
    have fin : ∀ (jump : Option Code) (W3 : World), KeepsFrom w.heap.size (W.putObj (w.heap.size + 1) (.loop (R .busy none))) W3 →
        (Instr.endRound (w.heap.size + 1) jump).run Tryd.prog W3 = .ok (.bool jump.isNone) (W3.putObj (w.heap.size + 1) (.loop (R (if jump.isNone then .ready else .done) jump))) ∧ Lp .busy none W3 := fun jump W3 hk => by
      have h3 : Lp .busy none W3 := ⟨hk.same _ _ (by omega) hp2.1 rfl, hk.same _ _ (Nat.le_refl _) hp2.2 rfl⟩
      have h4 := run_endRound (P := Tryd.prog) jump h3.1
      rw [hsp] at h4
      exact ⟨h4, h3⟩
    have leaves : ∀ (c : Code) (W3 : World), KeepsFrom w.heap.size (W.putObj (w.heap.size + 1) (.loop (R .busy none))) W3 → Ix c (pre ++ [x]) W3 →
        ∃ v w', (Instr.endRound (w.heap.size + 1) (some c)).run Tryd.prog W3 = .ok v w' ∧ ((Ending.returned v = .returned (.bool true) ∧ (I (pre ++ [x]) w' ∧ Lp .ready none w') ∧ Kp W w') ∨ (Ending.returned v = .returned (.bool false) ∧ ∃ c, Ix c (pre ++ [x]) w' ∧ Lp .done (some c) w')) := fun c W3 hk hi3 => by
      obtain ⟨hr, h3⟩ := fin (some c) W3 hk
      exact ⟨_, _, hr, .inr ⟨rfl, c, (hIx c).putObj _ hi3 (by omega) h3.1 rfl, put _ _ .done (some c) W3 h3⟩⟩
    rintro e a3 W3 hpost
    cases e with
    | normal =>
      obtain ⟨hk3, hkp3, hi3⟩ := hpost
      obtain ⟨hr, h3⟩ := fin none W3 hk3
      exact ⟨_, _, hr, .inl ⟨rfl, ⟨hI.putObj _ hi3 (by omega) h3.1 rfl, put _ _ .ready none W3 h3⟩, hKt (hKt (hKb _ _ _ (by omega)) hkp3) (hKb _ _ _ (by omega))⟩⟩
    | ret => exact leaves .ret W3 hpost.1 hpost.2
    | exit id => exact leaves (.exit id) W3 hpost.1 hpost.2
    | goto t => exact leaves (.goto t) W3 hpost.1 hpost.2
    | panic ch => exact hpost.elim
    | outgrown => exact hpost.elim
  · rintro e W2 ⟨⟨v, rfl⟩, (⟨xs, hS, hi, hp⟩ | ⟨pre, hSp, c, hi, hp⟩)⟩
    · have he := run_endLoop (P := Tryd.prog) hp.1 (by rw [hR]; simp)
      rw [hst] at he
      have hpe : (R .ready none).pending = none := by rw [hR]
      rw [hpe] at he
      exact ⟨none, _, he, hdone _ xs _ (Nat.le_refl _) hS (hI.putObj _ hi (by omega) hp.1 rfl) (put _ _ .exhausted none W2 hp).2⟩
    · have he := run_endLoop (P := Tryd.prog) hp.1 (by rw [hR]; simp)
      rw [hst] at he
      have hpe : (R .done (some c)).pending = some c := by rw [hR]
      rw [hpe] at he
      exact ⟨some c, _, he, hstop _ c pre _ (Nat.le_refl _) hSp ((hIx c).putObj _ hi (by omega) hp.1 rfl) (put _ _ .exhausted (some c) W2 hp).2⟩
end Go.Proofs.YtbjeaebgnnljhaaDoor
