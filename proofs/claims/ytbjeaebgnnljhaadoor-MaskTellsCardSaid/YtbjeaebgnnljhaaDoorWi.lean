/- WALKS: Text, of any mask. -/
import Derived.Maps.AppendAt
import Derived.Test.YtbjeaebgnnljhaaDoorWh
namespace Go.Proofs.YtbjeaebgnnljhaaDoor
open Go.RowKit Go.Shelf
attribute [local go_sem] Oper.semAt_some
set_option maxHeartbeats 1000000
set_option maxRecDepth 100000

/-- A range's text. -/
def wordOf (g c : Nat) : List UInt8 := Lib.decDigits g ++ (if g < c then 45 :: Lib.decDigits c else [])
/-- A core more: the words so far, and the first core of the range that is open; below 0: none is. -/
def stepT (m : MK) (s : List (List UInt8) × Int) (c : C256) : List (List UInt8) × Int :=
  if has m (c.1 + 1) then (s.1, if s.2 < 0 then (c.1 : Int) else s.2) else (s.1 ++ [wordOf (if s.2 < 0 then (c.1 : Int) else s.2).toNat c.1], -1)
def stT (m : MK) (l : List C256) : List (List UInt8) × Int := l.foldl (stepT m) ([], -1)
theorem stT_snoc (m : MK) (l : List C256) (c : C256) : stT m (l ++ [c]) = stepT m (stT m l) c := by simp [stT]
theorem dec_len {u : Nat} (h : u < 256) : (Lib.decDigits u).length ≤ 3 := by
  rw [Lib.decDigits_length]
  by_cases h1 : u < 10
  · rw [Lib.nDigits_small h1]; omega
  · rw [Lib.nDigits_big h1]
    by_cases h2 : u / 10 < 10
    · rw [Lib.nDigits_small h2]; omega
    · rw [Lib.nDigits_big h2, Lib.nDigits_small (by omega)]; omega
theorem stepT_bd (m : MK) (s : List (List UInt8) × Int) (c : C256) (h : -1 ≤ s.2 ∧ s.2 < 256) : -1 ≤ (stepT m s c).2 ∧ (stepT m s c).2 < 256 := by
  have hc := c.2
  unfold stepT
  split
  · simp only; split <;> omega
  · simp
theorem stT_bd (m : MK) (l : List C256) : -1 ≤ (stT m l).2 ∧ (stT m l).2 < 256 := by
  have key : ∀ (l : List C256) (s : List (List UInt8) × Int), (-1 ≤ s.2 ∧ s.2 < 256) → -1 ≤ (l.foldl (stepT m) s).2 ∧ (l.foldl (stepT m) s).2 < 256 := by
    intro l
    induction l with
    | nil => exact fun s h => h
    | cons c l ih => exact fun s h => ih _ (stepT_bd m s c h)
  exact key l _ (by simp)
theorem stT_len (m : MK) (l : List C256) : (stT m l).1.length ≤ l.length := by
  have key : ∀ (l : List C256) (s : List (List UInt8) × Int), (l.foldl (stepT m) s).1.length ≤ s.1.length + l.length := by
    intro l
    induction l with
    | nil => simp
    | cons c l ih =>
      intro s
      have h := ih (stepT m s c)
      have h2 : (stepT m s c).1.length ≤ s.1.length + 1 := by unfold stepT; split <;> simp
      simp only [List.foldl, List.length_cons]
      omega
  simpa [stT] using key l ([], -1)
def strV (b : List UInt8) : Value := .string ⟨b.toArray⟩
theorem stT_words (m : MK) (l : List C256) : ∀ b ∈ (stT m l).1, b.length ≤ 7 := by
  have key : ∀ (l : List C256) (s : List (List UInt8) × Int), (-1 ≤ s.2 ∧ s.2 < 256) → (∀ b ∈ s.1, b.length ≤ 7) → ∀ b ∈ (l.foldl (stepT m) s).1, b.length ≤ 7 := by
    intro l
    induction l with
    | nil => exact fun s _ h => h
    | cons c l ih =>
      refine fun s hs h => ih _ (stepT_bd m s c hs) ?_
      unfold stepT
      split
      · exact h
      · intro b hb
        rcases List.mem_append.1 hb with hb | hb
        · exact h b hb
        · simp only [List.mem_singleton] at hb
          subst hb
          have hc := c.2
          have l1 := dec_len (u := (if s.2 < 0 then (c.1 : Int) else s.2).toNat) (by split <;> omega)
          have l2 := dec_len hc
          generalize (if s.2 < 0 then (c.1 : Int) else s.2).toNat = g at l1 ⊢
          unfold wordOf
          rw [List.length_append]
          by_cases hq : g < c.1
          · rw [if_pos hq, List.length_cons]; omega
          · rw [if_neg hq, List.length_nil]; omega
  exact key l _ (by simp) (by simp)
theorem Tryd.info9 : (Tryd.prog.info? 9).map (fun i => (i.zero, i.size, i.bytes)) = some (some (.string ⟨#[]⟩), 1, 16) := by kernel_rfl
theorem row_below {W W1 : World} {base : Nat} {e : TypeId} {size : Nat} {v : Value} {n : Nat} {xs : List Value} (h : W.ownsRow base e size v n xs) (hb : Below W.heap.size W W1) : W1.ownsRow base e size v n xs :=
  h.kept (grown_of_below hb none) (by cases e : v.ownBlock <;> simp)

theorem lens_le (k : Nat) : ∀ l : List (List UInt8), (∀ b ∈ l, b.length ≤ k) → Lib.lens l ≤ k * l.length := by
  intro l
  induction l with
  | nil => simp [Lib.lens]
  | cons b l ih =>
    intro h
    have h1 := ih fun x hx => h x (List.mem_cons_of_mem _ hx)
    have h2 := h b (List.mem_cons_self ..)
    simp only [Lib.lens, List.map_cons, List.sum_cons, List.length_cons] at *
    rw [Nat.mul_add]; omega
theorem join_le (ws : List (List UInt8)) (h : ∀ b ∈ ws, b.length ≤ 7) (hl : ws.length ≤ 256) : (Lib.join ws [44]).length ≤ 140737488355328 := by
  cases ws with
  | nil => simp [Lib.join_nil]
  | cons x r =>
    rw [Lib.join_length]
    have := lens_le 7 _ h
    simp at hl ⊢ this
    omega
theorem Join_row {base : Nat} {v : Value} {ws : List (List UInt8)} {W : World} (hr : W.ownsRow base 9 1 v ws.length (ws.map strV)) (h : ∀ b ∈ ws, b.length ≤ 7) (hl : ws.length ≤ 256) :
    Calls Tryd.prog 45 #[v, .string ⟨#[44]⟩] W fun e w' => e = .returned (strV (Lib.join ws [44])) ∧ Below W.heap.size W w' := by
  rcases hr.2 with ⟨rfl, h0⟩ | ⟨g, cap, cur, rfl, _, hgb, hle, _, hsz, htk⟩
  · obtain rfl := List.eq_nil_of_length_eq_zero h0
    refine (Tryd.strings_Join_none none 0 ⟨#[44]⟩ W).mono ?_
    rintro e w' ⟨rfl, rfl⟩
    exact ⟨rfl, Below.refl _ _⟩
  · have e1 : (ws.map fun b : List UInt8 => (⟨b.toArray⟩ : ByteArray)).map (·.data.toList) = ws := by simp [List.map_map, Function.comp_def]
    have e2 : (ws.map fun b : List UInt8 => (⟨b.toArray⟩ : ByteArray)).length = ws.length := by simp
    have hj := Tryd.strings_Join g 0 cap (ws.map fun b : List UInt8 => (⟨b.toArray⟩ : ByteArray)) ⟨#[44]⟩ W (fun j x hx => by
      rw [Nat.zero_add]
      have hjl : j < ws.length := by have := (List.getElem?_eq_some_iff.1 hx).1; simpa using this
      have e : cur.toList[j]? = some (Value.string x) := by
        have : (cur.toList.take (ws.length * 1))[j]? = (ws.map strV)[j]? := by rw [htk]
        rw [List.getElem?_take_of_lt (by omega)] at this
        rw [this]
        simp only [List.getElem?_map] at hx ⊢
        cases hq : ws[j]? with
        | none => simp [hq] at hx
        | some b => simp [hq] at hx; subst hx; rfl
      have e3 : cur[j]? = some (.string x) := by simpa using e
      simp [World.cell?, hgb, e3]) (Array.getElem?_eq_some_iff.1 hgb).1 (by omega) (by omega) (by rw [e1]; exact join_le ws h hl)
    rw [e1, e2] at hj
    exact hj
/-- BETWEEN TWO ROUNDS of Text. -/
structure TInv (w : World) (m : MK) (v : Value) (ws : List (List UInt8)) (f : Int) (W : World) : Prop where
  words : Boxed W (w.heap.size + 1) 69 v
  row : W.ownsRow w.heap.size 9 1 v ws.length (ws.map strV)
  first : Boxed W (w.heap.size + 1 + 1) 3 (.int .i64 f)
  mask : Blk W w.heap.size #[.int .u64 m.1, .int .u64 m.2.1, .int .u64 m.2.2.1, .int .u64 m.2.2.2] 27
  it : Blk W (w.heap.size + 1 + 1 + 1) #[.int .u64 m.1, .int .u64 m.2.1, .int .u64 m.2.2.1, .int .u64 m.2.2.2] 27
  below : Below w.heap.size w W
theorem TInv.later {w W W' : World} {m : MK} {v : Value} {ws : List (List UInt8)} {f : Int} (h : TInv w m v ws f W) (hb : Below W.heap.size W W') : TInv w m v ws f W' :=
  ⟨Blk.below (cs := #[v]) h.words hb h.words.lt, row_below h.row hb, Blk.below (cs := #[.int .i64 f]) h.first hb h.first.lt, h.mask.below hb h.mask.lt, h.it.below hb h.it.lt, h.below.trans (hb.mono h.below.size)⟩
theorem TInv.kp {w W W' : World} {m : MK} {v v' : Value} {ws ws' : List (List UInt8)} {f f' : Int} (h : TInv w m v ws f W) (h' : TInv w m v' ws' f' W') : KpB (w.heap.size + 1 + 1 + 1) W W' := Eq.trans h'.it (Eq.symm h.it)
theorem keepsO_below {W W1 : World} (h : Below W.heap.size W W1) : KeepsOthers W W1 :=
  ⟨h.size, fun k _ hk _ => (h.block k (Array.getElem?_eq_some_iff.1 hk).1).trans hk⟩
theorem row_setCell {W : World} {base : Nat} {e : TypeId} {size : Nat} {v : Value} {n : Nat} {xs : List Value} (h : W.ownsRow base e size v n xs) (B : Nat) (u : Value) (hne : some B ≠ v.ownBlock) : (W.setCell ⟨B, 0, none⟩ u).ownsRow base e size v n xs :=
  h.kept (grownBy_setCell' W B u) (.inr (fun e => hne e.symm))
theorem TInv.setFirst {w W : World} {m : MK} {v : Value} {ws : List (List UInt8)} {f : Int} (h : TInv w m v ws f W) (f' : Int) : TInv w m v ws f' (W.setCell ⟨w.heap.size + 1 + 1, 0, none⟩ (.int .i64 f')) :=
  ⟨Blk.far (cs := #[v]) h.words _ _ (by simp), row_setCell h.row _ _ (h.first.not_row (by decide) h.row), h.first.set _, h.mask.far _ _ (by simp; omega), h.it.far _ _ (by simp), h.below.setCell (by simp; omega) _⟩
theorem TInv.appended {w W w1 : World} {m : MK} {v v' : Value} {ws : List (List UInt8)} {f : Int} {b : List UInt8} {tmp : Obj} (h : TInv w m v ws f W)
    (hown : w1.ownsRow w.heap.size 9 1 v' (ws ++ [b]).length ((ws ++ [b]).map strV)) (hgrow : (W.alloc tmp).grownBy w1 v.ownBlock) :
    TInv w m v' (ws ++ [b]) f (w1.setCell ⟨w.heap.size + 1, 0, none⟩ v') ∧ KeepsOthers W (w1.setCell ⟨w.heap.size + 1, 0, none⟩ v') ∧ Boxed w1 (w.heap.size + 1) 69 v ∧ Boxed w1 (w.heap.size + 1 + 1) 3 (.int .i64 f) := by
  obtain ⟨a1, a2, a3, a4, a5⟩ := h.words.appended (by decide) h.row h.below.size (by omega) hown hgrow
  have b1 : Boxed w1 (w.heap.size + 1 + 1) 3 (.int .i64 f) := (h.first.alloc tmp).kept hgrow (h.first.not_row (by decide) h.row)
  have b2 : Blk w1 w.heap.size #[.int .u64 m.1, .int .u64 m.2.1, .int .u64 m.2.2.1, .int .u64 m.2.2.2] 27 := (h.mask.alloc tmp).kept hgrow (h.mask.not_row (by decide) h.row)
  have b3 : Blk w1 (w.heap.size + 1 + 1 + 1) #[.int .u64 m.1, .int .u64 m.2.1, .int .u64 m.2.2.1, .int .u64 m.2.2.2] 27 := (h.it.alloc tmp).kept hgrow (h.it.not_row (by decide) h.row)
  exact ⟨⟨a2, a3, Blk.far (cs := #[.int .i64 f]) b1 _ _ (by simp), b2.far _ _ (by simp), b3.far _ _ (by simp; omega), h.below.trans a5⟩, a4, a1, b1⟩

/-- A fence that lets all by, a scope through which the run goes without a goto taken in. -/
structure FWS (F : Fence) : Prop where
  fw : FW F
  scope : ∀ {n : Nat} {c : Code} {Q : Exit → Act → World → Prop} {a : Act} {w : World}, c.wpIn F n Tryd.prog (Exit.noGoto Q) a w → (Code.scope c).wpIn F n Tryd.prog Q a w
theorem FWS.wide : FWS Fence.wide := ⟨FW.wide, fun h => wpIn_wide.2 (wp_scope_straight (wpIn_wide.1 h))⟩

theorem Text_in (F : Fence) (hFS : FWS F) (m : MK) (hm : mok m) (w : World) (hE : Env w) :
    CallsIn F 5 Tryd.prog 24 #[mv m] w fun e w' => e = .returned (strV (Lib.join (stT m (upTo m 256)).1 [44])) ∧ Below w.heap.size w w' := by
  have hF := hFS.fw
  have hw := hF.fn
  have hro := hF.round
  obtain ⟨i0, hi, hz0, hz1, hz2⟩ := info_parts Tryd.info9
  refine callsIn_of_wp_marks Tryd.func24 rfl (hw _) ?_ hro
  simp only [Tryd.ntmps24, List.size_toArray, List.length_cons, List.length_nil, Nat.reduceAdd, Nat.reduceSub, Array.replicate_succ, Array.replicate_zero, List.push_toArray, List.append_toArray, List.nil_append, List.cons_append]
  unfold mv
  have HE := Lib.hid hE
  have HM := Lib.hid hm
  clear hE hm
  gi_wp2
  refine hFS.scope ?_
  gi_wp2
  refine wpIn_label ?_
  gi_wp2_with (gi_at_call 39; refine (hF.of (cores_any m _)).mono ?_; rintro e w' ⟨rfl, rfl⟩)
  have k1 := ((((Blk.new w #[.int .u64 m.1, .int .u64 m.2.1, .int .u64 m.2.2.1, .int .u64 m.2.2.2] 27).alloc (.cells #[.slice none 0 0] 69)).alloc (.cells #[.int .i64 (-1)] 3)).alloc (.cells #[.int .u64 m.1, .int .u64 m.2.1, .int .u64 m.2.2.1, .int .u64 m.2.2.2] 27))
  have k3 := (((Boxed.new (w.alloc (.cells #[.int .u64 m.1, .int .u64 m.2.1, .int .u64 m.2.2.1, .int .u64 m.2.2.2] 27)) 69 (.slice none 0 0)).alloc (.cells #[.int .i64 (-1)] 3)).alloc (.cells #[.int .u64 m.1, .int .u64 m.2.1, .int .u64 m.2.2.1, .int .u64 m.2.2.2] 27))
  have k4 := ((Boxed.new ((w.alloc (.cells #[.int .u64 m.1, .int .u64 m.2.1, .int .u64 m.2.2.1, .int .u64 m.2.2.2] 27)).alloc (.cells #[.slice none 0 0] 69)) 3 (.int .i64 (-1))).alloc (.cells #[.int .u64 m.1, .int .u64 m.2.1, .int .u64 m.2.2.1, .int .u64 m.2.2.2] 27))
  have km := Blk.new (((w.alloc (.cells #[.int .u64 m.1, .int .u64 m.2.1, .int .u64 m.2.2.1, .int .u64 m.2.2.2] 27)).alloc (.cells #[.slice none 0 0] 69)).alloc (.cells #[.int .i64 (-1)] 3)) #[.int .u64 m.1, .int .u64 m.2.1, .int .u64 m.2.2.1, .int .u64 m.2.2.2] 27
  have hB0 : Below w.heap.size w ((((w.alloc (.cells #[.int .u64 m.1, .int .u64 m.2.1, .int .u64 m.2.2.1, .int .u64 m.2.2.2] 27)).alloc (.cells #[.slice none 0 0] 69)).alloc (.cells #[.int .i64 (-1)] 3)).alloc (.cells #[.int .u64 m.1, .int .u64 m.2.1, .int .u64 m.2.2.1, .int .u64 m.2.2.2] 27)) :=
    (((((Below.refl _ w).alloc (Nat.le_refl _) _).alloc (by simp) _).alloc (by simp; omega) _).alloc (by simp; omega) _)
  rw [World.size_alloc] at k3
  rw [World.size_alloc, World.size_alloc] at k4
  rw [World.size_alloc, World.size_alloc, World.size_alloc] at km
  refine wpIn_rangeFunc_ownG hro (by omega) (gf := 52) (lb := #[.pointer (some ⟨w.heap.size + 1 + 1 + 1, 0, none⟩)]) rfl (hw _) (enters_of Tryd.func52 (by kernel_rfl) rfl)
    (cores_stops F hF _ (by omega) m HM.out (w.heap.size + 1 + 1 + 1) _ km) KpB_t (KpB_b (by simp)) (Below.refl _ _) (fun _ => rfl)
    (fun pre W => ∃ v, TInv w m v (stT m pre).1 (stT m pre).2 W)
    (fun _ _ _ => False)
    (fun s X Y row hs hg hr => by
      obtain ⟨v, hv, hrow, h2, h3, h4, h5⟩ := hs
      refine ⟨v, Blk.ownkept (cs := #[v]) hv hg hr, hrow.kept hg ?_, Blk.ownkept (cs := #[.int .i64 (stT m s).2]) h2 hg hr, h3.ownkept hg hr, h4.ownkept hg hr, below_ownkept h5 (by simp; omega) hg hr⟩
      rcases hrow.2 with ⟨rfl, _⟩ | ⟨g, cap, cur, rfl, _, hgb, _⟩
      · exact .inl rfl
      · refine .inr fun e' => ?_
        obtain ⟨_, o, ho, hc⟩ := hr g (by simpa [Value.ownBlock] using e'.symm)
        rw [hgb] at ho; cases ho; cases hc)
    (fun _ _ _ _ _ hs _ _ => hs)
    ⟨_, k3, World.ownsRow_nil _ _ _ _, k4, k1, km, hB0⟩
    (fun x => { tmps := #[.agg #[.int .u64 m.1, .int .u64 m.2.1, .int .u64 m.2.2.1, .int .u64 m.2.2.2], .pointer (some ⟨w.heap.size, 0, none⟩), .string ⟨#[]⟩, .pointer (some ⟨w.heap.size + 1, 0, none⟩), .pointer (some ⟨w.heap.size + 1 + 1, 0, none⟩), .int .i64 ((x.1 : Nat) : Int), undef, .agg #[.int .u64 m.1, .int .u64 m.2.1, .int .u64 m.2.2.1, .int .u64 m.2.2.2],
      .func (.func 52) #[] #[.pointer (some ⟨w.heap.size + 1 + 1 + 1, 0, none⟩)], .int .i64 ((x.1 : Nat) : Int), undef, undef, undef, undef, undef, undef, undef, undef, undef, undef, undef, undef, undef, undef, undef, undef, undef, undef, undef, undef, undef, undef, undef], defers := [] }) ?assign ?body ?done ?stop
  case assign =>
    intro l x W K hK
    gi_wp2
    exact hK
  case body =>
    rintro l pre x W ⟨v, hI⟩ hlen
    have hbd := stT_bd m pre
    have hlen2 := stT_len m pre
    obtain ⟨ws, f, hstr⟩ : ∃ ws f, stT m pre = (ws, f) := ⟨_, _, rfl⟩
    rw [hstr] at hI hbd hlen2
    dsimp only at hI hbd hlen2
    have hx := x.2
    have HX := Lib.hid hI
    have HE2 := Lib.hid (HE.out.below hI.below)
    obtain ⟨c10, c11, c12, c13, f10, f11, f12, f13⟩ := hI.mask.all4
    have c3 := hI.words.cell
    have c4 := hI.first.cell
    have f3 := hI.words.frozen
    have f4 := hI.first.frozen
    have hL := Lib.hid hstr
    have l1 := hI.mask.lt
    have l3 := hI.words.lt
    have l4 := hI.first.lt
    clear hstr hI k1 k3 k4 km hB0
    by_cases hh : has m (x.1 + 1) = true
    · have HH : Hid (hasI m ((x.1 : Nat) + 1 : Int) = true) := Lib.hid (by rw [show ((x.1 : Nat) + 1 : Int) = ((x.1 + 1 : Nat) : Int) from rfl, hasI_nat]; exact hh)
      have HS : Hid (stepT m (ws, f) x = (ws, if f < 0 then ((x.1 : Nat) : Int) else f)) := Lib.hid (by simp [stepT, hh])
      clear hh
      by_cases hf : f < 0
      · gi_wp2_with (gi_at_call 19; refine (CallsIn.inRound l (hF.of (Has_any m HM.out _ _))).mono ?_; rintro e w2 ⟨rfl, hb2⟩; rw [HH.out]; obtain ⟨hc2, hf2⟩ := bcell hb2)
        have HF := (HX.out.setFirst _).later hb2
        refine ⟨((KeepsOthers.setCell _ _ _).from _).trans (keeps_below hb2), HX.out.kp HF, ⟨v, ?_⟩⟩
        rw [stT_snoc, hL.out, HS.out, if_pos hf]
        exact HF
      · gi_wp2_with (gi_at_call 19; refine (CallsIn.inRound l (hF.of (Has_any m HM.out _ _))).mono ?_; rintro e w2 ⟨rfl, hb2⟩; rw [HH.out]; obtain ⟨hc2, hf2⟩ := bcell hb2)
        refine ⟨keeps_below hb2, HX.out.kp (HX.out.later hb2), ⟨v, ?_⟩⟩
        rw [stT_snoc, hL.out, HS.out, if_neg (by omega)]
        exact HX.out.later hb2
    · have hh' : has m (x.1 + 1) = false := by simpa using hh
      have HH : Hid (hasI m ((x.1 : Nat) + 1 : Int) = false) := Lib.hid (by rw [show ((x.1 : Nat) + 1 : Int) = ((x.1 + 1 : Nat) : Int) from rfl, hasI_nat]; exact hh')
      have HS : Hid (stepT m (ws, f) x = (ws ++ [wordOf (if f < 0 then ((x.1 : Nat) : Int) else f).toNat x.1], -1)) := Lib.hid (by simp [stepT, hh'])
      clear hh hh'
      by_cases hf : f < 0
      · have HW : Hid (wordOf (if f < 0 then ((x.1 : Nat) : Int) else f).toNat x.1 = Lib.decDigits x.1) := Lib.hid (by rw [if_pos hf]; simp [wordOf])
        have HX2 := Lib.hid (HX.out.setFirst ((x.1 : Nat) : Int))
        have HE3 := Lib.hid (HE.out.below HX2.out.below)
        gi_wp2_with (first
          | (gi_at_call 19; refine (CallsIn.inRound l (hF.of (Has_any m HM.out _ _))).mono ?_; rintro e w2 ⟨rfl, hb2⟩; rw [HH.out]; obtain ⟨hc2, hf2⟩ := bcell hb2; have hT := HX2.out.later hb2; have hE := HE3.out.below hb2; have hK := (KeepsOthers.setCell _ _ _).trans (keepsO_below hb2); have hcf := hT.first.cell; clear hb2 hc2 hf2)
          | (gi_at_call 44; refine (CallsIn.inRound l (hF.of (Itoa_any _ (by assumption) _ hE))).mono ?_; rintro e w3 ⟨rfl, hb3⟩; replace hT := hT.later hb3; replace hE := hE.below hb3; replace hK := hK.trans (keepsO_below hb3); replace hcf := hT.first.cell; have hff := hT.first.frozen; have hcw := hT.words.cell; have hfw := hT.words.frozen; have hrow := hT.row; have hsz := hT.below.size; clear hb3)
          | (gi_at_builtin; refine wpListIn_append_own _ rfl _ _ 69 rfl w.heap.size 9 i0 (.string ⟨#[]⟩) 1 16 Tryd.underlying69 hi hz0 hz1 hz2 rfl (by decide) _ _ _ rfl (hrow.alloc _) ⟨_, 0, none⟩ 1 1 [.string ⟨(Lib.decDigits x.1).toArray⟩] rfl rfl (cell_one_new _ _ _) (by simp [Value.oneCell']) (by unfold maxLen; omega) (by omega) (by simp; omega) ?_; intro v' w5 hown' hgrow _; obtain ⟨g', cap', rfl⟩ := ownsRow_succ hown'; obtain ⟨hI5, hk5, hw5, hf5⟩ := hT.appended (b := Lib.decDigits x.1) (by rw [List.length_append, List.map_append]; exact hown') hgrow; have d1 := hw5.cell; have d2 := hw5.frozen; have d3 := hf5.cell; have d4 := hf5.frozen; have HI5 := Lib.hid (And.intro hI5 (hK.trans hk5)); clear hI5 hw5 hf5 hT hE hK hk5))
        refine ⟨(HI5.out.2.trans (KeepsOthers.setCell _ _ _)).from _, HX.out.kp (HI5.out.1.setFirst (-1)), ⟨.slice (some ⟨g', 0, none⟩) (ws.length + 1) cap', ?_⟩⟩
        rw [stT_snoc, hL.out, HS.out, HW.out]
        exact HI5.out.1.setFirst (-1)
      · obtain ⟨g, rfl⟩ := Int.eq_ofNat_of_zero_le (by omega : 0 ≤ f)
        have hg : g < 256 := by omega
        have lg := dec_len hg
        have lx := dec_len hx
        by_cases hgt : (g : Int) < ((x.1 : Nat) : Int)
        · have HW : Hid (wordOf (if (g : Int) < 0 then ((x.1 : Nat) : Int) else g).toNat x.1 = Lib.decDigits g ++ 45 :: Lib.decDigits x.1) := Lib.hid (by rw [if_neg (by omega)]; have : g < x.1 := (by omega); simp [wordOf, this])
          have HQ : Hid (strV (Lib.decDigits g ++ 45 :: Lib.decDigits x.1) = .string (⟨(Lib.decDigits g).toArray⟩ ++ (⟨#[45]⟩ ++ ⟨(Lib.decDigits x.1).toArray⟩))) := Lib.hid (by unfold strV; congr 1 <;> (apply ByteArray.ext; simp))
          gi_wp2_with (first
            | (gi_at_call 19; refine (CallsIn.inRound l (hF.of (Has_any m HM.out _ _))).mono ?_; rintro e w2 ⟨rfl, hb2⟩; rw [HH.out]; obtain ⟨hc2, hf2⟩ := bcell hb2; have hT := HX.out.later hb2; have hE := HE2.out.below hb2; have hK := keepsO_below hb2; have hcf := hT.first.cell; clear hb2 hc2 hf2)
            | (gi_at_call 44; refine (CallsIn.inRound l (hF.of (Itoa_any _ (by assumption) _ hE))).mono ?_; rintro e w3 ⟨rfl, hb3⟩; replace hT := hT.later hb3; replace hE := hE.below hb3; replace hK := hK.trans (keepsO_below hb3); replace hcf := hT.first.cell; have hff := hT.first.frozen; have hcw := hT.words.cell; have hfw := hT.words.frozen; have hrow := hT.row; have hsz := hT.below.size; clear hb3)
            | (gi_at_builtin; refine wpListIn_append_own _ rfl _ _ 69 rfl w.heap.size 9 i0 (.string ⟨#[]⟩) 1 16 Tryd.underlying69 hi hz0 hz1 hz2 rfl (by decide) _ _ _ rfl (hrow.alloc _) ⟨_, 0, none⟩ 1 1 [.string (⟨(Lib.decDigits g).toArray⟩ ++ (⟨#[45]⟩ ++ ⟨(Lib.decDigits x.1).toArray⟩))] rfl rfl (cell_one_new _ _ _) (by simp [Value.oneCell']) (by unfold maxLen; omega) (by omega) (by simp; omega) ?_; intro v' w5 hown' hgrow _; obtain ⟨g', cap', rfl⟩ := ownsRow_succ hown'; obtain ⟨hI5, hk5, hw5, hf5⟩ := hT.appended (b := Lib.decDigits g ++ 45 :: Lib.decDigits x.1) (by rw [List.length_append, List.map_append]; rw [List.map_singleton, HQ.out]; exact hown') hgrow; have d1 := hw5.cell; have d2 := hw5.frozen; have d3 := hf5.cell; have d4 := hf5.frozen; have HI5 := Lib.hid (And.intro hI5 (hK.trans hk5)); clear hI5 hw5 hf5 hT hE hK hk5))
          refine ⟨(HI5.out.2.trans (KeepsOthers.setCell _ _ _)).from _, HX.out.kp (HI5.out.1.setFirst (-1)), ⟨.slice (some ⟨g', 0, none⟩) (ws.length + 1) cap', ?_⟩⟩
          rw [stT_snoc, hL.out, HS.out, HW.out]
          exact HI5.out.1.setFirst (-1)
        · have HW : Hid (wordOf (if (g : Int) < 0 then ((x.1 : Nat) : Int) else g).toNat x.1 = Lib.decDigits g) := Lib.hid (by rw [if_neg (by omega)]; have : ¬ g < x.1 := (by omega); simp [wordOf, this])
          gi_wp2_with (first
            | (gi_at_call 19; refine (CallsIn.inRound l (hF.of (Has_any m HM.out _ _))).mono ?_; rintro e w2 ⟨rfl, hb2⟩; rw [HH.out]; obtain ⟨hc2, hf2⟩ := bcell hb2; have hT := HX.out.later hb2; have hE := HE2.out.below hb2; have hK := keepsO_below hb2; have hcf := hT.first.cell; clear hb2 hc2 hf2)
            | (gi_at_call 44; refine (CallsIn.inRound l (hF.of (Itoa_any _ (by assumption) _ hE))).mono ?_; rintro e w3 ⟨rfl, hb3⟩; replace hT := hT.later hb3; replace hE := hE.below hb3; replace hK := hK.trans (keepsO_below hb3); replace hcf := hT.first.cell; have hff := hT.first.frozen; have hcw := hT.words.cell; have hfw := hT.words.frozen; have hrow := hT.row; have hsz := hT.below.size; clear hb3)
            | (gi_at_builtin; refine wpListIn_append_own _ rfl _ _ 69 rfl w.heap.size 9 i0 (.string ⟨#[]⟩) 1 16 Tryd.underlying69 hi hz0 hz1 hz2 rfl (by decide) _ _ _ rfl (hrow.alloc _) ⟨_, 0, none⟩ 1 1 [.string ⟨(Lib.decDigits g).toArray⟩] rfl rfl (cell_one_new _ _ _) (by simp [Value.oneCell']) (by unfold maxLen; omega) (by omega) (by simp; omega) ?_; intro v' w5 hown' hgrow _; obtain ⟨g', cap', rfl⟩ := ownsRow_succ hown'; obtain ⟨hI5, hk5, hw5, hf5⟩ := hT.appended (b := Lib.decDigits g) (by rw [List.length_append, List.map_append]; exact hown') hgrow; have d1 := hw5.cell; have d2 := hw5.frozen; have d3 := hf5.cell; have d4 := hf5.frozen; have HI5 := Lib.hid (And.intro hI5 (hK.trans hk5)); clear hI5 hw5 hf5 hT hE hK hk5))
          refine ⟨(HI5.out.2.trans (KeepsOthers.setCell _ _ _)).from _, HX.out.kp (HI5.out.1.setFirst (-1)), ⟨.slice (some ⟨g', 0, none⟩) (ws.length + 1) cap', ?_⟩⟩
          rw [stT_snoc, hL.out, HS.out, HW.out]
          exact HI5.out.1.setFirst (-1)
  case done =>
    rintro D ys W hD rfl ⟨v, hI⟩ hK
    have c3 := hI.words.cell
    have hJ := Join_row hI.row (stT_words m _) (Nat.le_trans (stT_len m _) (upTo_length m _))
    have HX := Lib.hid hI
    have HK := Lib.hid hK
    have HJ := Lib.hid hJ
    clear hI hK hJ k1 k3 k4 km hB0
    gi_wp2_with (gi_at_call 45; refine (hF.of HJ.out).mono ?_; rintro e w2 ⟨rfl, hb2⟩)
    have hK' : w2.heap[D]? = some (.deferred (some [])) := (hb2.block _ (Array.getElem?_eq_some_iff.1 HK.out).1).trans HK.out
    refine ⟨by simp, .inl ⟨_, _, rfl, run_takeDeferred hK', ?_⟩⟩
    exact ⟨_, results_tmp rfl _ _ _, rfl, below_putObj (HX.out.below.trans (hb2.mono HX.out.below.size)) (by simp at hD; omega) hK' rfl rfl _⟩
  case stop =>
    rintro D c pre W _ _ h _
    exact h.elim

/-- (Mask).Text, of any mask. -/
def textM (m : MK) : List UInt8 := Lib.join (stT m (upTo m 256)).1 [44]
theorem Text_any (m : MK) (hm : mok m) (w : World) (hE : Env w) : Calls Tryd.prog 24 #[mv m] w fun e w' => e = .returned (strV (textM m)) ∧ Below w.heap.size w w' :=
  callsIn_wide.1 (Text_in _ FWS.wide m hm w hE)
end Go.Proofs.YtbjeaebgnnljhaaDoor
