/- PLAIN: texts of ranges parsed: the program's way, the reference's way. -/
import Derived.Test.YtbjeaebgnnljhaaDoorPc
import Derived.Test.YtbjeaebgnnljhaaDoorPb
namespace Go.Proofs.YtbjeaebgnnljhaaDoor

theorem dec_isD (n : Nat) : ∀ c ∈ Lib.decDigits n, isD c = true := by
  induction n using Nat.strongRecOn with
  | _ n ih =>
    intro c hc
    rw [Lib.decDigits] at hc
    by_cases h : n < 10
    · rw [dif_pos h] at hc
      obtain rfl : c = UInt8.ofNat (48 + n) := by simpa using hc
      have : (48 + n) % 256 = 48 + n := by omega
      simp [isD, this]; omega
    · rw [dif_neg h] at hc
      rcases List.mem_append.1 hc with hc | hc
      · exact ih (n / 10) (by omega) c hc
      · obtain rfl : c = UInt8.ofNat (48 + n % 10) := by simpa using hc
        have : (48 + n % 10) % 256 = 48 + n % 10 := by omega
        simp [isD, this]; omega
theorem dec_val (n : Nat) : valD (Lib.decDigits n) = n := by
  induction n using Nat.strongRecOn with
  | _ n ih =>
    rw [Lib.decDigits]
    by_cases h : n < 10
    · rw [dif_pos h]
      have : (48 + n) % 256 = 48 + n := by omega
      simp [valD, this]
    · rw [dif_neg h, valD_snoc, ih (n / 10) (by omega)]
      have : (48 + n % 10) % 256 = 48 + n % 10 := by omega
      simp [this]; omega
theorem dec_ne (n : Nat) : Lib.decDigits n ≠ [] := by
  intro h
  have h1 := congrArg List.length h
  rw [Lib.decDigits_length] at h1
  have := Lib.nDigits_pos n
  simp at h1; omega
theorem parse_digits : ∀ (l : List UInt8) (acc k : Nat), (∀ c ∈ l, isD c = true) → acc < 10 ^ k → k + l.length ≤ 15 → Lib.parseUint10 acc l = .ok (l.foldl (fun n c => 10 * n + (c.toNat - 48)) acc) := by
  intro l
  induction l with
  | nil => intro acc k _ _ _; rfl
  | cons c r ih =>
    intro acc k hc ha hk
    have h1 := hc c (by simp)
    simp [isD] at h1
    have hk' : k ≤ 14 := by simp at hk; omega
    have hp : 10 ^ k ≤ 10 ^ 14 := Nat.pow_le_pow_right (by decide) hk'
    have h14 : (10 : Nat) ^ 14 = 100000000000000 := by decide
    rw [Lib.parseUint10, if_pos h1, if_neg (by omega), if_neg (by omega)]
    rw [ih (acc * 10 + (c.toNat - 48)) (k + 1) (fun x hx => hc x (by simp [hx])) (by rw [Nat.pow_succ]; omega) (by simp at hk; omega)]
    rw [List.foldl_cons, Nat.mul_comm 10 acc]
theorem numB_dec {g : Nat} (hg : g < 256) : numB (Lib.decDigits g) = (g : Int) := by
  have h1 := dec_isD g
  have h2 := dec_len hg
  have hv := dec_val g
  unfold numB
  cases hl : Lib.decDigits g with
  | nil => exact absurd hl (dec_ne g)
  | cons c r =>
    rw [hl] at h1 h2 hv
    have hc := h1 c (by simp)
    simp [isD] at hc
    have hm : Lib.parseMag (c :: r) = .ok g := by
      unfold Lib.parseMag
      rw [if_neg (by simp), parse_digits (c :: r) 0 1 h1 (by decide) (by simp at h2 ⊢; omega)]
      rw [← hv]; rfl
    have h43 : ¬ c.toNat = 43 := by omega
    have h45 : ¬ c.toNat = 45 := by omega
    have hat : Lib.atoiAll (c :: r) = .ok (g : Int) := by
      unfold Lib.atoiAll
      simp [h43, h45, hm]
      omega
    show (match Lib.atoiAll (c :: r) with | .ok v => if 0 ≤ v ∧ v < 256 then v else -1 | _ => -1) = _
    rw [hat]
    exact if_pos (by omega)
theorem numB_nil : numB [] = -1 := rfl

theorem indexByte_none : ∀ (a : List UInt8) (x : UInt8), x ∉ a → Lib.indexByte a x = -1
  | [], _, _ => rfl
  | b :: l, x, h => by
    have hb : (b == x) = false := by rw [beq_eq_false_iff_ne]; rintro rfl; exact h (by simp)
    rw [Lib.indexByte, hb, indexByte_none l x (fun h' => h (by simp [h']))]; rfl
theorem indexByte_hit : ∀ (a r : List UInt8) (x : UInt8), x ∉ a → Lib.indexByte (a ++ x :: r) x = a.length
  | [], r, x, _ => by simp [Lib.indexByte]
  | b :: l, r, x, h => by
    have hb : (b == x) = false := by rw [beq_eq_false_iff_ne]; rintro rfl; exact h (by simp)
    rw [List.cons_append, Lib.indexByte, hb, indexByte_hit l r x (fun h' => h (by simp [h']))]
    have : ((l.length : Int) == -1) = false := by rw [beq_eq_false_iff_ne]; omega
    rw [this]; simp
theorem dec_no (n : Nat) (x : UInt8) (hx : isD x = false) : x ∉ Lib.decDigits n := fun h => by
  have := dec_isD n x h
  rw [hx] at this; cases this
theorem cut_word {g c : Nat} : fromOf (wordOf g c) = Lib.decDigits g ∧ toOf (wordOf g c) = if g < c then Lib.decDigits c else Lib.decDigits g := by
  unfold fromOf toOf Lib.cut
  rw [Lib.index_one]
  by_cases h : g < c
  · rw [wordOf, if_pos h, indexByte_hit _ _ _ (dec_no g 45 rfl)]
    rw [if_pos (by omega), if_pos h]
    simp
  · rw [wordOf, if_neg h, List.append_nil, indexByte_none _ _ (dec_no g 45 rfl)]
    simp [h]
theorem has_addR (M : MK) (f : Nat) : ∀ (k : Nat), f + k ≤ 256 → ∀ x, has (addR M f k) x = (has M x || (decide (f ≤ x) && decide (x < f + k)))
  | 0, _, x => by
    have : (decide (f ≤ x) && decide (x < f + 0)) = false := by simp
    rw [addR, this, Bool.or_false]
  | k + 1, h, x => by
    rw [addR, has_withC _ (by omega), has_addR M f k (by omega), Bool.or_assoc]
    congr 1
    rw [Bool.eq_iff_iff]; simp; omega
theorem stepP_word (M : MK) {g c : Nat} (hgc : g ≤ c) (hc : c < 256) : stepP M (wordOf g c) = some (addR M g (c - g + 1)) := by
  obtain ⟨h1, h2⟩ := cut_word (g := g) (c := c)
  unfold stepP
  have ht : numB (toOf (wordOf g c)) = (c : Int) := by
    rw [h2]
    by_cases h : g < c
    · rw [if_pos h, numB_dec hc]
    · rw [if_neg h, numB_dec (by omega)]; omega
  rw [h1, ht, numB_dec (by omega), if_neg (by omega)]
  congr 2; omega

/-- Ranges: a first and a last core each. -/
def okP (ps : List (Nat × Nat)) : Prop := ∀ q ∈ ps, q.1 ≤ q.2 ∧ q.2 < 256
def inP (ps : List (Nat × Nat)) (x : Nat) : Bool := ps.any fun q => decide (q.1 ≤ x) && decide (x ≤ q.2)
def wordsP (ps : List (Nat × Nat)) : List (List UInt8) := ps.map fun q => wordOf q.1 q.2
theorem foldP_words (ps : List (Nat × Nat)) : okP ps → ∃ M, foldP (wordsP ps) = some M ∧ ∀ x, has M x = inP ps x := by
  induction ps using snocInd with
  | h0 => exact fun _ => ⟨mk0, rfl, fun x => by rw [has_mk0]; rfl⟩
  | h1 ps q ih =>
    intro h
    obtain ⟨M, h1, h2⟩ := ih (fun p hp => h p (by simp [hp]))
    obtain ⟨a, b⟩ := h q (by simp)
    refine ⟨addR M q.1 (q.2 - q.1 + 1), ?_, fun x => ?_⟩
    · rw [wordsP, List.map_append, List.map_cons, List.map_nil, foldP_snoc, show ps.map _ = wordsP ps from rfl, h1, Option.bind_some, stepP_word M a b]
    · rw [has_addR _ _ _ (by omega), h2]
      simp only [inP, List.any_append, List.any_cons, List.any_nil, Bool.or_false]
      congr 2
      rw [decide_eq_decide]; omega
theorem splitC_word (a : List UInt8) (ha : (44 : UInt8) ∉ a) : splitC a = [a] := splitC_miss a (indexByte_none a 44 ha)
theorem splitC_more (a r : List UInt8) (ha : (44 : UInt8) ∉ a) : splitC (a ++ 44 :: r) = a :: splitC r := by
  have h := (splitC_hit (a ++ 44 :: r) a.length (indexByte_hit a r 44 ha)).2
  rw [h]
  congr 1
  · simp
  · congr 1
    rw [List.drop_append]; simp
theorem word_no (g c : Nat) : (44 : UInt8) ∉ wordOf g c := by
  unfold wordOf
  split
  · intro h
    rcases List.mem_append.1 h with h | h
    · exact dec_no g 44 rfl h
    · rcases List.mem_cons.1 h with h | h
      · cases h
      · exact dec_no c 44 rfl h
  · simpa using dec_no g 44 rfl
theorem splitC_join : ∀ (ps : List (Nat × Nat)), ps ≠ [] → splitC (Lib.join (wordsP ps) [44]) = wordsP ps
  | [], h => absurd rfl h
  | [q], _ => by simp only [wordsP, List.map_cons, List.map_nil]; rw [Lib.join_one, splitC_word _ (word_no _ _)]
  | q :: q' :: r, _ => by
    have ih := splitC_join (q' :: r) (by simp)
    have e : Lib.join (wordsP (q :: q' :: r)) [44] = wordOf q.1 q.2 ++ 44 :: Lib.join (wordsP (q' :: r)) [44] := by
      simp only [wordsP, List.map_cons]
      rw [Lib.join_cons, Lib.join_cons]
      simp [Lib.joinTail]
    rw [e, splitC_more _ _ (word_no _ _), ih]
    rfl

/-- Digits ahead of something that is none. -/
theorem digs_dec {g : Nat} (hg : g < 256) (r : List UInt8) (hr : ∀ c, r.head? = some c → isD c = false) : digs (Lib.decDigits g ++ r) = Lib.decDigits g := by
  have hl := dec_len hg
  unfold digs
  rw [List.take_append, List.take_of_length_le (by omega), List.takeWhile_append_of_pos (dec_isD g)]
  have : List.takeWhile isD (List.take (4 - (Lib.decDigits g).length) r) = [] := by
    cases r with
    | nil => simp
    | cons c r =>
      obtain ⟨n, hn⟩ : ∃ n, 4 - (Lib.decDigits g).length = n + 1 := ⟨3 - (Lib.decDigits g).length, by omega⟩
      rw [hn, List.take_succ_cons, List.takeWhile_cons, hr c rfl]; rfl
  rw [this, List.append_nil]
theorem numV_dec {g : Nat} (hg : g < 256) (r : List UInt8) (hr : ∀ c, r.head? = some c → isD c = false) : numV (Lib.decDigits g ++ r) = (g : Int) := by
  unfold numV
  rw [digs_dec hg r hr, if_neg (dec_ne g), dec_val]
theorem stp_word (A B : List UInt8) {g c : Nat} (hgc : g ≤ c) (hc : c < 256) (hB : ∀ x, B.head? = some x → x = 44) :
    stp (A ++ (wordOf g c ++ B)) A.length = ((g : Int), (c : Int), A.length + (wordOf g c).length) := by
  have hB2 : ∀ x, B.head? = some x → isD x = false := fun x hx => by rw [hB x hx]; rfl
  by_cases h : g < c
  · have hw : wordOf g c = Lib.decDigits g ++ 45 :: Lib.decDigits c := by rw [wordOf, if_pos h]
    have hd : (A ++ (wordOf g c ++ B)).drop A.length = Lib.decDigits g ++ 45 :: (Lib.decDigits c ++ B) := by rw [List.drop_left, hw]; simp
    have h45 : ∀ x, (45 :: (Lib.decDigits c ++ B)).head? = some x → isD x = false := fun x hx => by simp at hx; subst hx; rfl
    have hT : numT (A ++ (wordOf g c ++ B)) A.length = A.length + (Lib.decDigits g).length := by
      unfold numT; rw [hd, digs_dec (by omega) _ h45]
    have hs : A ++ (wordOf g c ++ B) = (A ++ Lib.decDigits g ++ [45]) ++ (Lib.decDigits c ++ B) := by rw [hw]; simp
    have hlen : A.length + (Lib.decDigits g).length + 1 = (A ++ Lib.decDigits g ++ [45]).length := by simp; omega
    have hat : (A ++ (wordOf g c ++ B))[A.length + (Lib.decDigits g).length]? = some 45 := by
      rw [hs, List.getElem?_append_left (by simp), List.getElem?_append_right (by simp)]
      simp
    have hd2 : (A ++ (wordOf g c ++ B)).drop (A.length + (Lib.decDigits g).length + 1) = Lib.decDigits c ++ B := by rw [hs, hlen, List.drop_left]
    have hT2 : numT (A ++ (wordOf g c ++ B)) (A.length + (Lib.decDigits g).length + 1) = A.length + (Lib.decDigits g).length + 1 + (Lib.decDigits c).length := by
      unfold numT; rw [hd2, digs_dec hc _ hB2]
    unfold stp
    rw [hT, if_pos hat, hd, hd2, hT2, numV_dec (by omega) _ h45, numV_dec hc _ hB2, hw]
    simp; omega
  · obtain rfl : g = c := by omega
    have hw : wordOf g g = Lib.decDigits g := by rw [wordOf, if_neg h, List.append_nil]
    have hd : (A ++ (wordOf g g ++ B)).drop A.length = Lib.decDigits g ++ B := by rw [List.drop_left, hw]
    have hT : numT (A ++ (wordOf g g ++ B)) A.length = A.length + (Lib.decDigits g).length := by
      unfold numT; rw [hd, digs_dec (by omega) _ hB2]
    have hat : ¬ (A ++ (wordOf g g ++ B))[A.length + (Lib.decDigits g).length]? = some 45 := by
      rw [hw, List.getElem?_append_right (by omega), List.getElem?_append_right (by omega)]
      intro h
      have : B.head? = some 45 := by rw [List.head?_eq_getElem?, ← h]; congr 1; omega
      have := hB 45 this
      cases this
    unfold stp
    rw [hT, if_neg hat, hd, numV_dec (by omega) _ hB2, hw]
theorem wordOf_pos (g c : Nat) : 0 < (wordOf g c).length := by
  cases h : wordOf g c with
  | nil => exact absurd h (wordOf_ne g c)
  | cons x r => simp
theorem gR_join : ∀ (ps : List (Nat × Nat)), okP ps → ps ≠ [] → ∀ (A : List UInt8) (l : List Int),
    gR (A ++ Lib.join (wordsP ps) [44]) A.length l = l ++ (ps.map fun q => rng q.1 q.2).flatten
  | [], _, h, _, _ => absurd rfl h
  | [q], ho, _, A, l => by
    obtain ⟨a, b⟩ := ho q (by simp)
    have hp := wordOf_pos q.1 q.2
    have h1 := stp_word A [] a b (by simp)
    rw [List.append_nil] at h1
    simp only [wordsP, List.map_cons, List.map_nil]
    rw [Lib.join_one, gR_step _ _ _ (by simp; omega), h1]
    simp only
    rw [gR_end _ _ _ (by simp)]
    simp
  | q :: q' :: r, ho, _, A, l => by
    obtain ⟨a, b⟩ := ho q (by simp)
    have ih := gR_join (q' :: r) (fun p hp => ho p (by simp at hp ⊢; right; exact hp)) (by simp) (A ++ wordOf q.1 q.2 ++ [44]) (l ++ rng q.1 q.2)
    have e : Lib.join (wordsP (q :: q' :: r)) [44] = wordOf q.1 q.2 ++ 44 :: Lib.join (wordsP (q' :: r)) [44] := by
      simp only [wordsP, List.map_cons]
      rw [Lib.join_cons, Lib.join_cons]
      simp [Lib.joinTail]
    have hp := wordOf_pos q.1 q.2
    have h1 := stp_word A (44 :: Lib.join (wordsP (q' :: r)) [44]) a b (by simp)
    rw [e, gR_step _ _ _ (by simp; omega), h1]
    simp only
    have e2 : A ++ (wordOf q.1 q.2 ++ 44 :: Lib.join (wordsP (q' :: r)) [44]) = (A ++ wordOf q.1 q.2 ++ [44]) ++ Lib.join (wordsP (q' :: r)) [44] := by simp
    have e3 : A.length + (wordOf q.1 q.2).length + 1 = (A ++ wordOf q.1 q.2 ++ [44]).length := by simp; omega
    rw [e2, e3, ih]
    simp
theorem rng_mem {g c x : Nat} (hc : c < 256) : (x : Int) ∈ rng (g : Int) (c : Int) ↔ g ≤ x ∧ x ≤ c := by
  unfold rng
  simp only [List.mem_map, List.mem_range]
  constructor
  · rintro ⟨i, hi, e⟩; omega
  · rintro ⟨h1, h2⟩; exact ⟨x - g, by omega, by omega⟩
theorem has_flat (ps : List (Nat × Nat)) (ho : okP ps) (x : Nat) : has (makeM ((ps.map fun q => rng q.1 q.2).flatten)) x = inP ps x := by
  rw [has_makeM]
  rw [Bool.eq_iff_iff]
  simp only [Bool.and_eq_true, decide_eq_true_eq, inP, List.any_eq_true, List.mem_flatten, List.mem_map]
  constructor
  · rintro ⟨-, l, ⟨q, hq, rfl⟩, hx⟩
    exact ⟨q, hq, (rng_mem (ho q hq).2).1 hx⟩
  · rintro ⟨q, hq, h1, h2⟩
    have := ho q hq
    exact ⟨by omega, _, ⟨q, hq, rfl⟩, (rng_mem this.2).2 ⟨h1, h2⟩⟩

/-- A mask's ranges. -/
def prs (m : MK) : List (Nat × Nat) := ((List.range 256).filter (startB m)).map fun c => (c, re m c)
theorem prs_words (m : MK) : wordsP (prs m) = rWords m 256 := by
  unfold wordsP prs rWords; rw [List.map_map]; rfl
theorem prs_ok (m : MK) : okP (prs m) := by
  intro q hq
  obtain ⟨c, hc, rfl⟩ := List.mem_map.1 hq
  have h := (List.mem_filter.1 hc).1
  exact re_bd m _ c rfl (by simpa using h)
theorem rs_start (m : MK) : ∀ x, has m x = true → rs m x ≤ x ∧ startB m (rs m x) = true := by
  intro x
  induction x with
  | zero => intro h; exact ⟨Nat.le_refl _, by simp [rs, startB, h, hp]⟩
  | succ x ih =>
    intro h
    rw [rs]
    cases hx : has m x with
    | true => rw [if_pos rfl]; have := ih hx; exact ⟨by omega, this.2⟩
    | false => rw [if_neg (by simp)]; exact ⟨Nat.le_refl _, by simp [startB, h, hp, hx]⟩
theorem re_all (m : MK) : ∀ (d c x : Nat), x - c = d → has m c = true → c ≤ x → x ≤ re m c → has m x = true := by
  intro d
  induction d with
  | zero => intro c x h1 h2 h3 _; rw [show x = c by omega]; exact h2
  | succ d ih =>
    intro c x h1 h2 h3 h4
    rw [re_eq] at h4
    cases h : has m (c + 1) with
    | true => rw [h, if_pos rfl] at h4; exact ih (c + 1) x (by omega) h (by omega) h4
    | false => rw [h] at h4; simp at h4; omega
theorem le_re (m : MK) (x : Nat) : has m x = true → x ≤ re m x := fun h => (re_bd m _ x rfl (has_lt h)).1
theorem inP_prs (m : MK) (x : Nat) : inP (prs m) x = has m x := by
  rw [Bool.eq_iff_iff]
  simp only [inP, List.any_eq_true, Bool.and_eq_true, decide_eq_true_eq, prs, List.mem_map, List.mem_filter, List.mem_range]
  constructor
  · rintro ⟨q, ⟨c, ⟨hc, hs⟩, rfl⟩, h1, h2⟩
    have : has m c = true := by simp [startB] at hs; exact hs.1
    exact re_all m _ c x rfl this h1 h2
  · intro h
    have h1 := rs_start m x h
    have h2 := re_rs m x h
    exact ⟨_, ⟨rs m x, ⟨by have := has_lt h; omega, h1.2⟩, rfl⟩, h1.1, by simp only [h2]; exact le_re m x h⟩
theorem prs_nil {m : MK} (hm : mok m) (h : prs m = []) : m = mk0 := mk_ext hm mok_mk0 fun c _ => by rw [← inP_prs, h, has_mk0]; rfl
theorem rT_prs (m : MK) : rT m 256 = Lib.join (wordsP (prs m)) [44] := by rw [rT, prs_words]

/-- THE PROGRAM's WAY, THE REFERENCE's: a mask's own text is that mask. -/
theorem guess_text {m : MK} (hm : mok m) : (foldP (splitC (textM m))).getD mk0 = m := by
  rw [textM_rT, rT_prs]
  by_cases h : prs m = []
  · rw [h, prs_nil hm h]; rfl
  · obtain ⟨M, h1, h2⟩ := foldP_words (prs m) (prs_ok m)
    rw [splitC_join _ h, h1]
    exact mk_ext (mok_foldP h1) hm fun c _ => by show has M c = has m c; rw [h2, inP_prs]
theorem rguess_text {m : MK} (hm : mok m) : makeM (gR (textM m) 0 []) = m := by
  rw [textM_rT, rT_prs]
  by_cases h : prs m = []
  · rw [h, prs_nil hm h]
    rw [gR_end _ _ _ (by simp [wordsP, Lib.join_nil])]
    exact mk_ext (mok_makeM _) mok_mk0 fun c _ => by rw [has_makeM, has_mk0]; simp
  · have h1 := gR_join (prs m) (prs_ok m) h [] []
    simp only [List.nil_append, List.length_nil] at h1
    rw [h1]
    exact mk_ext (mok_makeM _) hm fun c _ => by rw [has_flat _ (prs_ok m), inP_prs]
theorem parse_text {m : MK} (hm : mok m) : parseRes (textM m) = (m, 0) := by
  unfold parseRes
  rw [guess_text hm, if_pos rfl]
theorem rparse_text {m : MK} (hm : mok m) : rParse (textM m) = (m, 0) := by
  unfold rParse
  rw [rguess_text hm, if_pos (textM_rT m).symm]
theorem mok_guess (l : List (List UInt8)) : mok ((foldP l).getD mk0) := by
  cases h : foldP l with
  | none => exact mok_mk0
  | some m => exact mok_foldP h
/-- THE TWO PARSES ARE ONE. -/
theorem parse_same (s : List UInt8) : parseRes s = rParse s := by
  by_cases h : ∃ m, mok m ∧ textM m = s
  · obtain ⟨m, hm, rfl⟩ := h
    rw [parse_text hm, rparse_text hm]
  · have h1 : parseRes s = (mk0, 5) := by
      unfold parseRes
      exact if_neg fun e => h ⟨_, mok_guess _, e⟩
    have h2 : rParse s = (mk0, 5) := by
      unfold rParse
      exact if_neg fun e => h ⟨_, mok_makeM _, by rw [textM_rT]; exact e⟩
    rw [h1, h2]
theorem parse_back (s : List UInt8) : ((parseRes s).2 = 0 ∧ textM (parseRes s).1 = s) ∨ ((parseRes s).2 = 5 ∧ (parseRes s).1 = mk0) := by
  unfold parseRes
  by_cases h : textM ((foldP (splitC s)).getD mk0) = s
  · rw [if_pos h]; exact .inl ⟨rfl, h⟩
  · rw [if_neg h]; exact .inr ⟨rfl, rfl⟩
end Go.Proofs.YtbjeaebgnnljhaaDoor
