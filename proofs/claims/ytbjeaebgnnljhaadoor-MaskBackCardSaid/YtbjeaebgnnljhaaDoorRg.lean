/- WALKS: the reference's Digits. -/
import Derived.Test.YtbjeaebgnnljhaaDoorRd
import Derived.Laws.IdiomStrings
namespace Go.Proofs.YtbjeaebgnnljhaaDoor
open Go.RowKit Go.Shelf
set_option maxHeartbeats 1000000
set_option maxRecDepth 100000

theorem mk_app (l l' : List UInt8) : (⟨l.toArray⟩ : ByteArray) ++ ⟨l'.toArray⟩ = ⟨(l ++ l').toArray⟩ := by
  apply ByteArray.ext; simp
theorem ret_str {a b : ByteArray} (h : a = b) : Ending.returned (.string a) = .returned (.string b) := by rw [h]
theorem dec_le (n : Nat) : (Lib.decDigits n).length ≤ n + 1 := by
  rw [Lib.decDigits_length]
  induction n using Nat.strongRecOn with
  | _ n ih =>
    by_cases h : n < 10
    · rw [Lib.nDigits_small h]; omega
    · rw [Lib.nDigits_big h]; have := ih (n / 10) (by omega); omega
theorem conv_digit (n : Nat) (w : World) : (convert 81 9 (.slice (some ⟨w.heap.size, 0, none⟩) 1 1)).run Tryd.prog (w.alloc (.cells #[.int .u8 (48 + (n : Int) % 10)] 5)) = .ok (.string ⟨#[UInt8.ofNat (48 + n % 10)]⟩) (w.alloc (.cells #[.int .u8 (48 + (n : Int) % 10)] 5)) := by
  have h := run_convert_bytes_back (P := Tryd.prog) (w.alloc (.cells #[.int .u8 (48 + (n : Int) % 10)] 5)) 81 9 5 ⟨w.heap.size, 0, none⟩ 1 [UInt8.ofNat (48 + n % 10)] Tryd.underlying81 Tryd.underlying5 Tryd.underlying9 (fun j hj => by
    obtain rfl : j = 0 := by simpa using hj
    have e := (Blk.new w #[.int .u8 (48 + (n : Int) % 10)] 5).cell 0 _ rfl
    rw [show (⟨w.heap.size, 0, none⟩ : Addr).add 0 = ⟨w.heap.size, 0, none⟩ from rfl, e]
    have h2 : (48 + n % 10) % 256 = 48 + n % 10 := by omega
    simp [h2])
  exact h
theorem rDigits_any (n : Nat) : ∀ (_ : n ≤ 1000000) (w : World), Calls Tryd.prog 46 #[.int .i64 (n : Int)] w fun e w' => e = .returned (strV (Lib.decDigits n)) ∧ Below w.heap.size w w' := by
  induction n using Nat.strongRecOn with
  | _ n ih =>
    intro hn w
    have kc := conv_digit n w
    obtain ⟨b, hb0⟩ : ∃ b, UInt8.ofNat (48 + n % 10) = b := ⟨_, rfl⟩
    rw [hb0] at kc
    by_cases h : n < 10
    · have h10 : ¬ (10 : Int) ≤ (n : Int) := by omega
      have HD : Hid (Lib.decDigits n = [b]) := Lib.hid (by rw [Lib.decDigits_one h, ← hb0, Nat.mod_eq_of_lt h])
      clear hb0
      go_enter Tryd.func46, Tryd.ntmps46
      go_wp2
      go_ret
      exact ⟨by rw [HD.out]; rfl, (Below.refl _ _).alloc (Nat.le_refl _) _⟩
    · have h10 : (10 : Int) ≤ (n : Int) := by omega
      have HI : Hid (∀ w, Calls Tryd.prog 46 #[.int .i64 ((n : Int) / 10)] w fun e w' => e = .returned (strV (Lib.decDigits (n / 10))) ∧ Below w.heap.size w w') := Lib.hid (fun w => by
        have e : ((n : Int) / 10) = ((n / 10 : Nat) : Int) := by omega
        rw [e]; exact ih (n / 10) (by omega) (by omega) w)
      have HD : Hid (Lib.decDigits n = Lib.decDigits (n / 10) ++ [b]) := Lib.hid (by rw [Lib.decDigits, dif_neg h, hb0])
      have hl : (Lib.decDigits (n / 10)).length ≤ 100001 := Nat.le_trans (dec_le _) (by omega)
      clear ih hb0
      go_enter Tryd.func46, Tryd.ntmps46
      go_wp2_with (go_at_call 46; refine (HI.out _).mono ?_; rintro e w1 ⟨rfl, hb⟩; dsimp only [strV])
      go_ret
      exact ⟨by rw [HD.out]; exact ret_str (mk_app _ [b]), ((Below.refl _ _).alloc (Nat.le_refl _) _).trans (hb.mono (by simp))⟩
end Go.Proofs.YtbjeaebgnnljhaaDoor
