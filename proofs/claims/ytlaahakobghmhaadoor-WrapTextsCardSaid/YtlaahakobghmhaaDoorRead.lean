/- The document's Read, and that it reads as the program's. -/
import Derived.Test.YtlaahakobghmhaaDoorRef
namespace Go.Proofs.YtlaahakobghmhaaDoor
open Go Go.RowKit
attribute [local go_sem ↓] Go.wp_at_zero Go.wp_at_succ

/-- The number of the first k bytes, however great; none where one is no digit. -/
def rv (s : ByteArray) : Nat → Option Int
  | 0 => some 0
  | k + 1 => match rv s k with
    | none => none
    | some n => if byteAt s k < 48 ∨ 57 < byteAt s k then none else some (10 * n + (byteAt s k - 48))
def rrest (s : ByteArray) : Value := match rv s s.size with
  | none => .tuple #[.int .u32 0, .bool false]
  | some n => if 4294967296 ≤ n then .tuple #[.int .u32 0, .bool false] else .tuple #[.int .u32 n, .bool true]

theorem byteAt_get (s : ByteArray) (k : Nat) (hk : k < s.size) : (((s[k]'hk).toNat : Nat) : Int) = byteAt s k := by
  unfold byteAt
  rw [Array.getElem?_eq_getElem hk]
  rfl
theorem rv_none (s : ByteArray) (k m : Nat) (h : k ≤ m) (hk : rv s k = none) : rv s m = none := by
  induction m with
  | zero => obtain rfl : k = 0 := by omega
            exact hk
  | succ m ih =>
    rcases Nat.lt_or_ge m k with h1 | h1
    · obtain rfl : k = m + 1 := by omega
      exact hk
    · simp only [rv, ih h1]
theorem rv_bd (s : ByteArray) (k : Nat) (n : Int) (h : rv s k = some n) : 0 ≤ n ∧ n < 10 ^ k := by
  induction k generalizing n with
  | zero => simp only [rv, Option.some.injEq] at h; omega
  | succ k ih =>
    simp only [rv] at h
    cases hk : rv s k with
    | none => rw [hk] at h; cases h
    | some m =>
      rw [hk] at h
      have := ih m hk
      simp only at h
      by_cases hb : byteAt s k < 48 ∨ 57 < byteAt s k
      · rw [if_pos hb] at h; cases h
      · rw [if_neg hb] at h
        injection h with h
        rw [Int.pow_succ]
        omega
theorem pow_bd (k : Nat) (h : k ≤ 10) : (10 : Int) ^ k ≤ 10000000000 := by
  have : ∀ j, j ≤ 10 → (10 : Int) ^ j ≤ 10000000000 := by decide
  exact this k h
theorem nonempty (s : ByteArray) (h : 1 ≤ s.size) : s.toList.isEmpty = false := by
  rw [ByteArray.toList_eq]
  obtain ⟨⟨l⟩⟩ := s
  cases l with
  | nil => exact absurd h (by decide)
  | cons a l => rfl

set_option maxHeartbeats 4000000 in
theorem rread_a (s : ByteArray) (h1 : 1 ≤ s.size) (h10 : s.size ≤ 10) (hz : byteAt s 0 ≠ 48) (w : World) :
    Calls Tryd.prog 20 #[.string s] w fun e w' => e = .returned (rrest s) ∧ w = w' := by
  have he := nonempty s h1
  have hl : decide ((10 : Int) < s.size) = false := decide_eq_false (by omega)
  have h0 : 0 < s.size := h1
  have hc0 := byteAt_get s 0 h0
  have hz' : (byteAt s 0 == 48) = false := beq_eq_false_iff_ne.2 hz
  generalize byteAt s 0 = c0 at *
  go_enter Tryd.func20, Tryd.ntmps20
  go_wp2_with fail
  clear he hl hc0 hz'
  go_loop [4, 5] (fun x i => ∃ (k : Nat) (n : Int), i = .int .i64 k ∧ k ≤ s.size ∧ rv s k = some n ∧ x = .int .i64 n) (fun _ i => s.size - (intOf i).toNat)
  case atStart => exact ⟨0, 0, rfl, Nat.zero_le _, rfl, rfl⟩
  case round =>
    obtain ⟨k, n, rfl, hk, hr, rfl⟩ := hrel
    have hb := rv_bd s k n hr
    have hp := pow_bd k (by omega)
    by_cases hlt : k < s.size
    · have hlt' : (k : Int) < s.size := by omega
      have hck := byteAt_get s k hlt
      have bb := byteAt_bd s k
      have hnext : rv s (k + 1) = if byteAt s k < 48 ∨ 57 < byteAt s k then none else some (10 * n + (byteAt s k - 48)) := by simp only [rv, hr]
      have hrr : (byteAt s k < 48 ∨ 57 < byteAt s k) → rrest s = .tuple #[.int .u32 0, .bool false] := fun hq => by
        unfold rrest
        rw [rv_none s (k + 1) s.size hlt (by rw [hnext, if_pos hq])]
      generalize byteAt s k = ck at *
      by_cases h48 : ck < 48
      · have e1 := hrr (.inl h48)
        clear hrr hnext
        go_wp2
        all_goals exact bodyPost_ret (v := .tuple #[.int .u32 0, .bool false]) (by simp [results, Tryd.results20, go_sem]) rfl ⟨by first | rfl | rw [e1], rfl⟩
      · by_cases h57 : 57 < ck
        · have e1 := hrr (.inr h57)
          clear hrr hnext
          go_wp2
          all_goals exact bodyPost_ret (v := .tuple #[.int .u32 0, .bool false]) (by simp [results, Tryd.results20, go_sem]) rfl ⟨by first | rfl | rw [e1], rfl⟩
        · have hr1 : rv s (k + 1) = some (10 * n + (ck - 48)) := by rw [hnext, if_neg (by omega)]
          have e8 : IntKind.u8.wrap (ck - 48) = ck - 48 := IntWalk.u8_in _ (by omega)
          clear hnext hrr
          go_wp2
          exact ⟨⟨k + 1, 10 * n + (ck - 48), by simp, hlt, hr1, rfl⟩, by simp [intOf]; omega⟩
    · obtain rfl : k = s.size := by omega
      have hlt' : ¬ (s.size : Int) < s.size := by omega
      have e1 : rrest s = if 4294967296 ≤ n then .tuple #[.int .u32 0, .bool false] else .tuple #[.int .u32 n, .bool true] := by
        unfold rrest
        rw [hr]
      by_cases hbig : 4294967296 ≤ n
      · rw [if_pos hbig] at e1
        go_wp2
        all_goals exact bodyPost_ret (v := .tuple #[.int .u32 0, .bool false]) (by simp [results, Tryd.results20, go_sem]) rfl ⟨by first | rfl | rw [e1], rfl⟩
      · rw [if_neg hbig] at e1
        have e9 : IntKind.u32.wrap n = n := by rw [u32_mod]; omega
        go_wp2
        all_goals exact bodyPost_ret (v := .tuple #[.int .u32 n, .bool true]) (by simp [results, Tryd.results20, go_sem]) rfl ⟨by first | rfl | rw [e1], rfl⟩

set_option maxHeartbeats 4000000 in
theorem rread_b (s : ByteArray) (h1 : s.size = 1) (hz : byteAt s 0 = 48) (w : World) :
    Calls Tryd.prog 20 #[.string s] w fun e w' => e = .returned (rrest s) ∧ w = w' := by
  have he := nonempty s (by omega)
  have hl : decide ((10 : Int) < s.size) = false := decide_eq_false (by omega)
  have hl1 : decide ((1 : Int) < s.size) = false := decide_eq_false (by omega)
  have h0 : 0 < s.size := by omega
  have hc0 := byteAt_get s 0 h0
  rw [hz] at hc0
  have h10 : s.size ≤ 10 := by omega
  clear hz h1
  go_enter Tryd.func20, Tryd.ntmps20
  go_wp2_with fail
  clear he hl hl1 hc0
  go_loop [4, 5] (fun x i => ∃ (k : Nat) (n : Int), i = .int .i64 k ∧ k ≤ s.size ∧ rv s k = some n ∧ x = .int .i64 n) (fun _ i => s.size - (intOf i).toNat)
  case atStart => exact ⟨0, 0, rfl, Nat.zero_le _, rfl, rfl⟩
  case round =>
    obtain ⟨k, n, rfl, hk, hr, rfl⟩ := hrel
    have hb := rv_bd s k n hr
    have hp := pow_bd k (by omega)
    by_cases hlt : k < s.size
    · have hlt' : (k : Int) < s.size := by omega
      have hck := byteAt_get s k hlt
      have bb := byteAt_bd s k
      have hnext : rv s (k + 1) = if byteAt s k < 48 ∨ 57 < byteAt s k then none else some (10 * n + (byteAt s k - 48)) := by simp only [rv, hr]
      have hrr : (byteAt s k < 48 ∨ 57 < byteAt s k) → rrest s = .tuple #[.int .u32 0, .bool false] := fun hq => by
        unfold rrest
        rw [rv_none s (k + 1) s.size hlt (by rw [hnext, if_pos hq])]
      generalize byteAt s k = ck at *
      by_cases h48 : ck < 48
      · have e1 := hrr (.inl h48)
        clear hrr hnext
        go_wp2
        all_goals exact bodyPost_ret (v := .tuple #[.int .u32 0, .bool false]) (by simp [results, Tryd.results20, go_sem]) rfl ⟨by first | rfl | rw [e1], rfl⟩
      · by_cases h57 : 57 < ck
        · have e1 := hrr (.inr h57)
          clear hrr hnext
          go_wp2
          all_goals exact bodyPost_ret (v := .tuple #[.int .u32 0, .bool false]) (by simp [results, Tryd.results20, go_sem]) rfl ⟨by first | rfl | rw [e1], rfl⟩
        · have hr1 : rv s (k + 1) = some (10 * n + (ck - 48)) := by rw [hnext, if_neg (by omega)]
          have e8 : IntKind.u8.wrap (ck - 48) = ck - 48 := IntWalk.u8_in _ (by omega)
          clear hnext hrr
          go_wp2
          exact ⟨⟨k + 1, 10 * n + (ck - 48), by simp, hlt, hr1, rfl⟩, by simp [intOf]; omega⟩
    · obtain rfl : k = s.size := by omega
      have hlt' : ¬ (s.size : Int) < s.size := by omega
      have e1 : rrest s = if 4294967296 ≤ n then .tuple #[.int .u32 0, .bool false] else .tuple #[.int .u32 n, .bool true] := by
        unfold rrest
        rw [hr]
      by_cases hbig : 4294967296 ≤ n
      · rw [if_pos hbig] at e1
        go_wp2
        all_goals exact bodyPost_ret (v := .tuple #[.int .u32 0, .bool false]) (by simp [results, Tryd.results20, go_sem]) rfl ⟨by first | rfl | rw [e1], rfl⟩
      · rw [if_neg hbig] at e1
        have e9 : IntKind.u32.wrap n = n := by rw [u32_mod]; omega
        go_wp2
        all_goals exact bodyPost_ret (v := .tuple #[.int .u32 n, .bool true]) (by simp [results, Tryd.results20, go_sem]) rfl ⟨by first | rfl | rw [e1], rfl⟩

theorem rread_c (s : ByteArray) (h1 : 1 < s.size) (h10 : s.size ≤ 10) (hz : byteAt s 0 = 48) (w : World) :
    Calls Tryd.prog 20 #[.string s] w fun e w' => e = .returned (.tuple #[.int .u32 0, .bool false]) ∧ w = w' := by
  have he := nonempty s (by omega)
  have hl : decide ((10 : Int) < s.size) = false := decide_eq_false (by omega)
  have hl1 : (1 : Int) < s.size := by omega
  have h0 : 0 < s.size := by omega
  have hc0 := byteAt_get s 0 h0
  rw [hz] at hc0
  clear hz
  go_enter Tryd.func20, Tryd.ntmps20
  go_wp2
  all_goals exact bodyPost_ret (v := .tuple #[.int .u32 0, .bool false]) (by simp [results, Tryd.results20, go_sem]) rfl ⟨rfl, rfl⟩
theorem rread_d (s : ByteArray) (h10 : 10 < s.size) (w : World) :
    Calls Tryd.prog 20 #[.string s] w fun e w' => e = .returned (.tuple #[.int .u32 0, .bool false]) ∧ w = w' := by
  have he := nonempty s (by omega)
  have hl : (10 : Int) < s.size := by omega
  go_enter Tryd.func20, Tryd.ntmps20
  go_wp2
  all_goals exact bodyPost_ret (v := .tuple #[.int .u32 0, .bool false]) (by simp [results, Tryd.results20, go_sem]) rfl ⟨rfl, rfl⟩
theorem rread_e (w : World) :
    Calls Tryd.prog 20 #[.string ⟨#[]⟩] w fun e w' => e = .returned (.tuple #[.int .u32 0, .bool false]) ∧ w = w' := by
  go_enter Tryd.func20, Tryd.ntmps20
  go_wp2
  all_goals exact bodyPost_ret (v := .tuple #[.int .u32 0, .bool false]) (by simp [results, Tryd.results20, go_sem]) rfl ⟨rfl, rfl⟩
end Go.Proofs.YtlaahakobghmhaaDoor
