/- WALKS: the reference's Parse. -/
import Derived.Test.YtbjeaebgnnljhaaDoorRh
import Derived.Test.YtbjeaebgnnljhaaDoorRi
namespace Go.Proofs.YtbjeaebgnnljhaaDoor
open Go.RowKit Go.Shelf
set_option maxHeartbeats 1000000
set_option maxRecDepth 100000

def numV (l : List UInt8) : Int := if digs l = [] then -1 else ((valD (digs l) : Nat) : Int)
theorem numR_eq (l : List UInt8) (p : Nat) : numR l p = (numV l, ((p + (digs l).length : Nat) : Int)) := by
  unfold numR numV
  by_cases h : digs l = []
  · simp [h]
  · simp [h]
theorem numV_bd (l : List UInt8) : -1 ≤ numV l ∧ numV l < 10000 := by
  unfold numV
  split
  · omega
  · have h := take_digs_lt l (digs l).length (Nat.le_refl _)
    rw [← digs_pre l] at h
    omega
/-- Where a number ends. -/
def numT (s : List UInt8) (p : Nat) : Nat := p + (digs (s.drop p)).length
theorem numT_bd (s : List UInt8) (p : Nat) (h : p ≤ s.length) : p ≤ numT s p ∧ numT s p ≤ s.length := by
  unfold numT
  have := (digs_len (s.drop p)).2
  rw [List.length_drop] at this
  omega
/-- A part of a text: its first and last number, and where it ends. -/
def stp (s : List UInt8) (p : Nat) : Int × Int × Nat :=
  if s[numT s p]? = some 45 then (numV (s.drop p), numV (s.drop (numT s p + 1)), numT s (numT s p + 1)) else (numV (s.drop p), numV (s.drop p), numT s p)
theorem stp_bd (s : List UInt8) (p : Nat) (h : p ≤ s.length) : p ≤ (stp s p).2.2 := by
  unfold stp
  have h1 := numT_bd s p h
  split
  · rename_i hs
    have := (List.getElem?_eq_some_iff.1 hs).1
    have := numT_bd s (numT s p + 1) (by omega)
    simp only; omega
  · exact h1.1
def rng (f l : Int) : List Int := (List.range (min l 255 + 1 - f).toNat).map fun (i : Nat) => f + (i : Int)
theorem rng_len (f l : Int) (hf : -1 ≤ f) : (rng f l).length ≤ 257 := by simp [rng]; omega
/-- What is gathered from a place on. -/
def gF (s : List UInt8) : Nat → Nat → List Int → List Int
  | 0, _, l => l
  | f + 1, p, l => if p < s.length then gF s f ((stp s p).2.2 + 1) (l ++ rng (stp s p).1 (stp s p).2.1) else l
theorem gF_more (s : List UInt8) : ∀ (f f' p : Nat) (l : List Int), s.length - p ≤ f → s.length - p ≤ f' → gF s f p l = gF s f' p l := by
  intro f
  induction f with
  | zero =>
    intro f' p l h1 h2
    cases f' with
    | zero => rfl
    | succ f' => rw [gF, gF, if_neg (by omega)]
  | succ f ih =>
    intro f' p l h1 h2
    cases f' with
    | zero => rw [gF, gF, if_neg (by omega)]
    | succ f' =>
      rw [gF, gF]
      by_cases hp : p < s.length
      · have := stp_bd s p (by omega)
        rw [if_pos hp, if_pos hp]
        exact ih _ _ _ (by omega) (by omega)
      · rw [if_neg hp, if_neg hp]
def gR (s : List UInt8) (p : Nat) (l : List Int) : List Int := gF s (s.length - p) p l
theorem gR_step (s : List UInt8) (p : Nat) (l : List Int) (hp : p < s.length) : gR s p l = gR s ((stp s p).2.2 + 1) (l ++ rng (stp s p).1 (stp s p).2.1) := by
  have h := stp_bd s p (by omega)
  unfold gR
  rw [show s.length - p = (s.length - p - 1) + 1 by omega, gF, if_pos hp]
  exact gF_more s _ _ _ _ (by omega) (by omega)
theorem gR_end (s : List UInt8) (p : Nat) (l : List Int) (hp : ¬ p < s.length) : gR s p l = l := by
  unfold gR
  rw [show s.length - p = 0 by omega, gF]
/-- What the reference's Parse answers. -/
def rParse (s : List UInt8) : MK × Int := if rT (makeM (gR s 0 [])) 256 = s then (makeM (gR s 0 []), 0) else (mk0, 5)
theorem rng_take (f : Int) (j : Nat) : (List.range (j + 1)).map (fun (i : Nat) => f + (i : Int)) = (List.range j).map (fun (i : Nat) => f + (i : Int)) ++ [f + (j : Int)] := by
  rw [List.range_succ, List.map_append]; rfl

theorem rParse_any (s : ByteArray) (hs : s.size ≤ 1000000) (w : World) : Calls Tryd.prog 23 #[.string s] w fun e w' => e = .returned (.tuple #[mv (rParse s.data.toList).1, .int .i64 (rParse s.data.toList).2]) ∧ Below w.heap.size w w' := by
  obtain ⟨i0, hi, hz0, hz1, hz2⟩ := info_parts Tryd.info3
  generalize hR : rParse s.data.toList = R
  have HR := Lib.hid hR
  clear hR
  have HG0 : Hid (gR s.data.toList 0 [] = gR s.data.toList 0 []) := Lib.hid rfl
  go_enter Tryd.func23, Tryd.ntmps23
  go_wp2
  go_loopw [4, 5] (fun v i wr => ∃ (p : Nat) (l : List Int), p ≤ s.size + 1 ∧ i = .int .i64 p ∧ l.length ≤ 257 * p ∧ gR s.data.toList p l = gR s.data.toList 0 [] ∧ wr.ownsRow w.heap.size 3 1 v l.length (l.map (Value.int .i64)) ∧ Below w.heap.size w wr ∧ Blk wr w.heap.size #[.int .u64 0, .int .u64 0, .int .u64 0, .int .u64 0] 24) (fun _ i _ => s.size + 1 - (intOf i).toNat)
  case atStart =>
    exact ⟨0, [], by omega, rfl, by simp, rfl, World.ownsRow_nil _ _ _ _, (Below.refl _ _).alloc (Nat.le_refl _) _, Blk.new w _ 24⟩
  case round =>
    obtain ⟨p, l, hps, rfl, hlen, hg, hrow, hb, h0⟩ := hrel
    have H0 := Lib.hid (And.intro hb h0)
    have HW := Lib.hid hrow
    have HG := Lib.hid hg
    clear hb h0 hrow hg
    by_cases hlt : p < s.size
    · have hsl : s.data.toList.length = s.size := rfl
      have hT1 : p ≤ numT s.data.toList p ∧ numT s.data.toList p ≤ s.size := numT_bd s.data.toList p (by omega)
      have hstep := gR_step s.data.toList p l (by omega)
      rw [HG.out] at hstep
      have HS := Lib.hid hstep
      have h1 := rNum_any s (by omega) p (by omega)
      rw [numR_eq] at h1
      have hv1 := numV_bd (s.data.toList.drop p)
      have hdef : stp s.data.toList p = if s.data.toList[numT s.data.toList p]? = some 45 then (numV (s.data.toList.drop p), numV (s.data.toList.drop (numT s.data.toList p + 1)), numT s.data.toList (numT s.data.toList p + 1)) else (numV (s.data.toList.drop p), numV (s.data.toList.drop p), numT s.data.toList p) := rfl
      have hT2 : numT s.data.toList p < s.size → numT s.data.toList p + 1 ≤ numT s.data.toList (numT s.data.toList p + 1) ∧ numT s.data.toList (numT s.data.toList p + 1) ≤ s.size := fun h => numT_bd _ _ (by omega)
      have h2 : ∀ (hq : numT s.data.toList p < s.size) (w : World), _ := fun hq w => rNum_any s (by omega) (numT s.data.toList p + 1) (by omega) w
      have hv2 := numV_bd (s.data.toList.drop (numT s.data.toList p + 1))
      have hsz : ∀ (h : numT s.data.toList p < s.size), s.data.toList[numT s.data.toList p]? = some s[numT s.data.toList p] := fun h => by
        rw [List.getElem?_eq_getElem (by omega)]; rfl
      have hsn : ¬ numT s.data.toList p < s.size → s.data.toList[numT s.data.toList p]? = none := fun h => List.getElem?_eq_none (by omega)
      rw [show p + (digs (s.data.toList.drop p)).length = numT s.data.toList p from rfl] at h1
      simp only [numR_eq, show ∀ q, q + (digs (s.data.toList.drop q)).length = numT s.data.toList q from fun _ => rfl] at h2
      generalize numT s.data.toList (numT s.data.toList p + 1) = t2 at hT2 h2 hdef
      generalize numV (s.data.toList.drop (numT s.data.toList p + 1)) = n2 at hv2 h2 hdef
      generalize numV (s.data.toList.drop p) = n1 at h1 hv1 hdef
      generalize numT s.data.toList p = t1 at *
      have HD := Lib.hid hdef
      have HC1 := Lib.hid h1
      have HC2 := Lib.hid h2
      have HZ := Lib.hid hsz
      have HN := Lib.hid hsn
      obtain ⟨v1, v2⟩ := hv1
      obtain ⟨v3, v4⟩ := hv2
      obtain ⟨b1, b2⟩ := hT1
      have HT2 := Lib.hid hT2
      clear hstep hdef h1 h2 hsz hsn hT2 hsl
      have hpi : (p : Int) < (s.size : Nat) := by omega
      have s0 := Lib.hid trivial
      by_cases hc1 : t1 < s.size
      · have hc1i : (t1 : Int) < (s.size : Nat) := by omega
        by_cases hc2 : s[t1] = 45
        · have hq : stp s.data.toList p = (n1, n2, t2) := by rw [HD.out, HZ.out hc1, hc2, if_pos rfl]
          rw [hq] at HS
          obtain ⟨b3, b4⟩ := HT2.out hc1
          have HC3 := Lib.hid (HC2.out hc1)
          have hc3 : (s[t1].toNat == 45) = true := by rw [hc2]; rfl
          have hc4 : ((s[t1].toNat : Int) == 45) = true := by rw [hc2]; rfl
          clear hq hc2 HD HZ HN HT2 HC2
          go_wp2_with (first
            | (go_at_call 43; (have q := s0; clear q); refine (HC1.out _).mono ?_; rintro e w1 ⟨rfl, rfl⟩; clear s0; have s1 := Lib.hid trivial)
            | (go_at_call 43; (have q := s1; clear q); refine (HC3.out _).mono ?_; rintro e w1 ⟨rfl, rfl⟩))
          obtain ⟨wo, hwo⟩ : ∃ wo : World, wo = wr := ⟨_, rfl⟩
          subst hwo
          have HL := Lib.hid hlen
          obtain ⟨N, hN⟩ : ∃ N, (min n2 255 + 1 - n1).toNat = N := ⟨_, rfl⟩
          have HRN : Hid (rng n1 n2 = (List.range N).map (fun (i : Nat) => n1 + (i : Int))) := Lib.hid (by rw [rng, hN])
          go_loopw [4, 9] (fun v c wr => ∃ j : Nat, j ≤ N ∧ c = .int .i64 (n1 + (j : Int)) ∧ wr.ownsRow w.heap.size 3 1 v (l ++ (List.range j).map (fun (i : Nat) => n1 + (i : Int))).length ((l ++ (List.range j).map (fun (i : Nat) => n1 + (i : Int))).map (Value.int .i64)) ∧ Below w.heap.size w wr ∧ Blk wr w.heap.size #[.int .u64 0, .int .u64 0, .int .u64 0, .int .u64 0] 24) (fun _ c _ => (n1 + N - intOf c).toNat)
          case atStart => exact ⟨0, by omega, by simp, by simpa using HW.out, H0.out.1, H0.out.2⟩
          case round =>
            obtain ⟨j, hj, rfl, hrow, hb, h0⟩ := hrel
            have H2 := Lib.hid (And.intro hb h0)
            have HR2 := Lib.hid hrow
            clear hb h0 hrow
            have hll : (l ++ (List.range j).map (fun (i : Nat) => n1 + (i : Int))).length ≤ 257 * p + 257 := by simp; omega
            have HLL := Lib.hid hll
            clear hll hlen
            by_cases hjN : j < N
            · have g1 : n1 + (j : Int) ≤ n2 := by omega
              have g2 : n1 + (j : Int) < 256 := by omega
              go_wp2_with (at_builtin; refine wpList_append_own _ rfl _ _ 25 rfl w.heap.size 3 i0 (.int .i64 0) 1 8 Tryd.underlying25 hi hz0 hz1 hz2 rfl (by decide) _ _ _ rfl (HR2.out.alloc _) ⟨wr.heap.size, 0, none⟩ 1 1 [.int .i64 (n1 + (j : Int))] rfl rfl (cell_one_new _ _ _) (by simp [Value.oneCell']) (by have := HLL.out; unfold maxLen; omega) (by have := HLL.out; omega) (by have := H2.out.1.size; simp; omega) ?_; intro v' w2 hown' hgrow _)
              go_roundw
              case rel => exact ⟨j + 1, by omega, by go_num, by rw [rng_take, ← List.append_assoc]; simpa [Nat.add_assoc] using hown', row_grown H2.out.1 H2.out.1.size (Below.refl _ _) HR2.out hgrow, blk_grown H2.out.2 (by decide) (Below.refl _ _) HR2.out hgrow⟩
              case measure => simp [intOf]; omega
            · obtain rfl : j = N := by omega
              by_cases g1 : n1 + (j : Int) ≤ n2
              · have g2 : ¬ n1 + (j : Int) < 256 := by omega
                go_wp2
                go_roundw
                case rel => exact ⟨t2 + 1, l ++ rng n1 n2, by omega, by go_num, by have := HL.out; have := rng_len n1 n2 v1; rw [List.length_append]; omega, HS.out.symm, by rw [HRN.out]; exact HR2.out, H2.out.1, H2.out.2⟩
                case measure => simp [intOf]; omega
              · go_wp2
                go_roundw
                case rel => exact ⟨t2 + 1, l ++ rng n1 n2, by omega, by go_num, by have := HL.out; have := rng_len n1 n2 v1; rw [List.length_append]; omega, HS.out.symm, by rw [HRN.out]; exact HR2.out, H2.out.1, H2.out.2⟩
                case measure => simp [intOf]; omega
        · have hq : stp s.data.toList p = (n1, n1, t1) := by rw [HD.out, HZ.out hc1, if_neg (by simpa using hc2)]
          rw [hq] at HS
          have hc4 : ((s[t1].toNat : Int) == 45) = false := by
            rw [beq_eq_false_iff_ne]; intro h; apply hc2; apply UInt8.toNat_inj.1; have : (45 : UInt8).toNat = 45 := rfl; omega
          clear hq hc2 HD HZ HN HT2 HC2
          go_wp2_with (go_at_call 43; refine (HC1.out _).mono ?_; rintro e w1 ⟨rfl, rfl⟩)
          obtain ⟨wo, hwo⟩ : ∃ wo : World, wo = wr := ⟨_, rfl⟩
          subst hwo
          have HL := Lib.hid hlen
          obtain ⟨N, hN⟩ : ∃ N, (min n1 255 + 1 - n1).toNat = N := ⟨_, rfl⟩
          have HRN : Hid (rng n1 n1 = (List.range N).map (fun (i : Nat) => n1 + (i : Int))) := Lib.hid (by rw [rng, hN])
          go_loopw [4, 9] (fun v c wr => ∃ j : Nat, j ≤ N ∧ c = .int .i64 (n1 + (j : Int)) ∧ wr.ownsRow w.heap.size 3 1 v (l ++ (List.range j).map (fun (i : Nat) => n1 + (i : Int))).length ((l ++ (List.range j).map (fun (i : Nat) => n1 + (i : Int))).map (Value.int .i64)) ∧ Below w.heap.size w wr ∧ Blk wr w.heap.size #[.int .u64 0, .int .u64 0, .int .u64 0, .int .u64 0] 24) (fun _ c _ => (n1 + N - intOf c).toNat)
          case atStart => exact ⟨0, by omega, by simp, by simpa using HW.out, H0.out.1, H0.out.2⟩
          case round =>
            obtain ⟨j, hj, rfl, hrow, hb, h0⟩ := hrel
            have H2 := Lib.hid (And.intro hb h0)
            have HR2 := Lib.hid hrow
            clear hb h0 hrow
            have hll : (l ++ (List.range j).map (fun (i : Nat) => n1 + (i : Int))).length ≤ 257 * p + 257 := by simp; omega
            have HLL := Lib.hid hll
            clear hll hlen
            by_cases hjN : j < N
            · have g1 : n1 + (j : Int) ≤ n1 := by omega
              have g2 : n1 + (j : Int) < 256 := by omega
              go_wp2_with (at_builtin; refine wpList_append_own _ rfl _ _ 25 rfl w.heap.size 3 i0 (.int .i64 0) 1 8 Tryd.underlying25 hi hz0 hz1 hz2 rfl (by decide) _ _ _ rfl (HR2.out.alloc _) ⟨wr.heap.size, 0, none⟩ 1 1 [.int .i64 (n1 + (j : Int))] rfl rfl (cell_one_new _ _ _) (by simp [Value.oneCell']) (by have := HLL.out; unfold maxLen; omega) (by have := HLL.out; omega) (by have := H2.out.1.size; simp; omega) ?_; intro v' w2 hown' hgrow _)
              go_roundw
              case rel => exact ⟨j + 1, by omega, by go_num, by rw [rng_take, ← List.append_assoc]; simpa [Nat.add_assoc] using hown', row_grown H2.out.1 H2.out.1.size (Below.refl _ _) HR2.out hgrow, blk_grown H2.out.2 (by decide) (Below.refl _ _) HR2.out hgrow⟩
              case measure => simp [intOf]; omega
            · obtain rfl : j = N := by omega
              by_cases g1 : n1 + (j : Int) ≤ n1
              · have g2 : ¬ n1 + (j : Int) < 256 := by omega
                go_wp2
                go_roundw
                case rel => exact ⟨t1 + 1, l ++ rng n1 n1, by omega, by go_num, by have := HL.out; have := rng_len n1 n1 v1; rw [List.length_append]; omega, HS.out.symm, by rw [HRN.out]; exact HR2.out, H2.out.1, H2.out.2⟩
                case measure => simp [intOf]; omega
              · go_wp2
                go_roundw
                case rel => exact ⟨t1 + 1, l ++ rng n1 n1, by omega, by go_num, by have := HL.out; have := rng_len n1 n1 v1; rw [List.length_append]; omega, HS.out.symm, by rw [HRN.out]; exact HR2.out, H2.out.1, H2.out.2⟩
                case measure => simp [intOf]; omega
      · have hq : stp s.data.toList p = (n1, n1, t1) := by rw [HD.out, HN.out hc1, if_neg (by simp)]
        rw [hq] at HS
        have hc1i : ¬ (t1 : Int) < (s.size : Nat) := by omega
        clear hq HD HZ HN HT2 HC2
        go_wp2_with (go_at_call 43; refine (HC1.out _).mono ?_; rintro e w1 ⟨rfl, rfl⟩)
        obtain ⟨wo, hwo⟩ : ∃ wo : World, wo = wr := ⟨_, rfl⟩
        subst hwo
        have HL := Lib.hid hlen
        obtain ⟨N, hN⟩ : ∃ N, (min n1 255 + 1 - n1).toNat = N := ⟨_, rfl⟩
        have HRN : Hid (rng n1 n1 = (List.range N).map (fun (i : Nat) => n1 + (i : Int))) := Lib.hid (by rw [rng, hN])
        go_loopw [4, 9] (fun v c wr => ∃ j : Nat, j ≤ N ∧ c = .int .i64 (n1 + (j : Int)) ∧ wr.ownsRow w.heap.size 3 1 v (l ++ (List.range j).map (fun (i : Nat) => n1 + (i : Int))).length ((l ++ (List.range j).map (fun (i : Nat) => n1 + (i : Int))).map (Value.int .i64)) ∧ Below w.heap.size w wr ∧ Blk wr w.heap.size #[.int .u64 0, .int .u64 0, .int .u64 0, .int .u64 0] 24) (fun _ c _ => (n1 + N - intOf c).toNat)
        case atStart => exact ⟨0, by omega, by simp, by simpa using HW.out, H0.out.1, H0.out.2⟩
        case round =>
          obtain ⟨j, hj, rfl, hrow, hb, h0⟩ := hrel
          have H2 := Lib.hid (And.intro hb h0)
          have HR2 := Lib.hid hrow
          clear hb h0 hrow
          have hll : (l ++ (List.range j).map (fun (i : Nat) => n1 + (i : Int))).length ≤ 257 * p + 257 := by simp; omega
          have HLL := Lib.hid hll
          clear hll hlen
          by_cases hjN : j < N
          · have g1 : n1 + (j : Int) ≤ n1 := by omega
            have g2 : n1 + (j : Int) < 256 := by omega
            go_wp2_with (at_builtin; refine wpList_append_own _ rfl _ _ 25 rfl w.heap.size 3 i0 (.int .i64 0) 1 8 Tryd.underlying25 hi hz0 hz1 hz2 rfl (by decide) _ _ _ rfl (HR2.out.alloc _) ⟨wr.heap.size, 0, none⟩ 1 1 [.int .i64 (n1 + (j : Int))] rfl rfl (cell_one_new _ _ _) (by simp [Value.oneCell']) (by have := HLL.out; unfold maxLen; omega) (by have := HLL.out; omega) (by have := H2.out.1.size; simp; omega) ?_; intro v' w2 hown' hgrow _)
            go_roundw
            case rel => exact ⟨j + 1, by omega, by go_num, by rw [rng_take, ← List.append_assoc]; simpa [Nat.add_assoc] using hown', row_grown H2.out.1 H2.out.1.size (Below.refl _ _) HR2.out hgrow, blk_grown H2.out.2 (by decide) (Below.refl _ _) HR2.out hgrow⟩
            case measure => simp [intOf]; omega
          · obtain rfl : j = N := by omega
            by_cases g1 : n1 + (j : Int) ≤ n1
            · have g2 : ¬ n1 + (j : Int) < 256 := by omega
              go_wp2
              go_roundw
              case rel => exact ⟨t1 + 1, l ++ rng n1 n1, by omega, by go_num, by have := HL.out; have := rng_len n1 n1 v1; rw [List.length_append]; omega, HS.out.symm, by rw [HRN.out]; exact HR2.out, H2.out.1, H2.out.2⟩
              case measure => simp [intOf]; omega
            · go_wp2
              go_roundw
              case rel => exact ⟨t1 + 1, l ++ rng n1 n1, by omega, by go_num, by have := HL.out; have := rng_len n1 n1 v1; rw [List.length_append]; omega, HS.out.symm, by rw [HRN.out]; exact HR2.out, H2.out.1, H2.out.2⟩
              case measure => simp [intOf]; omega
    · have hpi : ¬ (p : Int) < (s.size : Nat) := by omega
      have hgl : gR s.data.toList 0 [] = l := by rw [← HG.out, gR_end _ _ _ (by show ¬ p < s.size; exact hlt)]
      have hlen2 : l.length ≤ 140737488355328 := by omega
      have HRR : Hid (R = if rT (makeM l) 256 = s.data.toList then (makeM l, 0) else (mk0, 5)) := Lib.hid (by rw [← HR.out, rParse, hgl])
      have HMM := Lib.hid (mok_makeM l)
      have hmk := Make_any l _ hlen2 wr (ints_of_row HW.out)
      generalize makeM l = M at hmk HRR HMM
      have HMK := Lib.hid hmk
      clear hgl hmk
      by_cases ht : rT M 256 = s.data.toList
      · have HT : Hid (strV (rT M 256) = .string s) := Lib.hid (by unfold strV; rw [ht])
        rw [if_pos ht] at HRR
        clear ht
        go_wp2_with (first
          | (go_at_call 37; refine HMK.out.mono ?_; rintro e w1 ⟨rfl, hb⟩; dsimp only [mv]; have hx := Lib.hid hb; clear hb; have hb := hx; clear hx)
          | (go_at_call 25; refine (rText_any M HMM.out _).mono ?_; rintro e w2 ⟨rfl, hb2⟩; rw [HT.out]; obtain ⟨hc2, hf2⟩ := bcell hb2; have hz := Blk.below (Blk.alloc (H0.out.2.below hb.out H0.out.2.lt) _) hb2 (Blk.lt (Blk.alloc (H0.out.2.below hb.out H0.out.2.lt) _)); have hw2 := ((H0.out.1.trans (hb.out.mono H0.out.1.size)).alloc (Nat.le_trans H0.out.1.size hb.out.size) _).trans (hb2.mono (by have := H0.out.1.size; have := hb.out.size; simp; omega)); obtain ⟨q0, q1, q2, q3, r0, r1, r2, r3⟩ := hz.all4; have HZ2 := Lib.hid (And.intro hz hw2); clear hz hw2))
        have h9 := HZ2.out.1.set4 (.int .u64 M.1) (.int .u64 M.2.1) (.int .u64 M.2.2.1) (.int .u64 M.2.2.2)
        refine bodyPost_ret (v := .tuple #[mv M, .int .i64 0]) ?_ rfl ⟨by rw [HRR.out], ?_⟩
        · simp [results, Tryd.results23, go_sem, h9.cell 0 _ rfl, h9.cell 1 _ rfl, h9.cell 2 _ rfl, h9.cell 3 _ rfl]; rfl
        · exact (((HZ2.out.2.setCell (by simp) _).setCell (by simp) _).setCell (by simp) _).setCell (by simp) _
      · have hbn : (rT M 256 == s.toList) = false := by
          rw [ByteArray.toList_eq]; exact beq_eq_false_iff_ne.2 ht
        rw [if_neg ht] at HRR
        clear ht
        go_wp2_with (first
          | (go_at_call 37; refine HMK.out.mono ?_; rintro e w1 ⟨rfl, hb⟩; dsimp only [mv]; have hx := Lib.hid hb; clear hb; have hb := hx; clear hx)
          | (go_at_call 25; refine (rText_any M HMM.out _).mono ?_; rintro e w2 ⟨rfl, hb2⟩; dsimp only [strV]; obtain ⟨hc2, hf2⟩ := bcell hb2; have hz := Blk.below (Blk.alloc (H0.out.2.below hb.out H0.out.2.lt) _) hb2 (Blk.lt (Blk.alloc (H0.out.2.below hb.out H0.out.2.lt) _)); have hw2 := ((H0.out.1.trans (hb.out.mono H0.out.1.size)).alloc (Nat.le_trans H0.out.1.size hb.out.size) _).trans (hb2.mono (by have := H0.out.1.size; have := hb.out.size; simp; omega)); obtain ⟨q0, q1, q2, q3, r0, r1, r2, r3⟩ := hz.all4; have HZ2 := Lib.hid (And.intro hz hw2); clear hz hw2))
        have h9 := HZ2.out.1.set4 (.int .u64 0) (.int .u64 0) (.int .u64 0) (.int .u64 0)
        refine bodyPost_ret (v := .tuple #[mv mk0, .int .i64 5]) ?_ rfl ⟨by rw [HRR.out], ?_⟩
        · simp [results, Tryd.results23, go_sem, h9.cell 0 _ rfl, h9.cell 1 _ rfl, h9.cell 2 _ rfl, h9.cell 3 _ rfl]; rfl
        · exact (((HZ2.out.2.setCell (by simp) _).setCell (by simp) _).setCell (by simp) _).setCell (by simp) _
end Go.Proofs.YtbjeaebgnnljhaaDoor
