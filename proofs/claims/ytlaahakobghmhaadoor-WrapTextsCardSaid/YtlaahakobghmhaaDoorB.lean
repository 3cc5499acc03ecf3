/- Package wrap: Read. -/
import Derived.Test.YtlaahakobghmhaaDoorA
import Derived.Laws.IdiomStrings
import Derived.Laws.AppendOwn
import Derived.Lib.SlicesS
namespace Go.Proofs.YtlaahakobghmhaaDoor
open Go.RowKit
attribute [local go_sem ↓] Go.wp_at_zero Go.wp_at_succ

theorem u42 : Tryd.prog.underlying 42 = some (.slice 5) := by kernel_rfl
theorem u5 : Tryd.prog.underlying 5 = some (.int .u8) := by kernel_rfl
theorem u9 : Tryd.prog.underlying 9 = some .string := by kernel_rfl

theorem grown_trans {a b c : World} (h : a.grownBy b none) (k : b.grownBy c none) : a.grownBy c none :=
  ⟨k.os.trans h.os, k.tape.trans h.tape, k.output.trans h.output, Nat.le_trans h.size k.size, fun x hx _ => (k.block x (Nat.lt_of_lt_of_le hx h.size) (by simp)).trans (h.block x hx (by simp))⟩
theorem grown_drew (w : World) : w.grownBy w.drew none := ⟨rfl, rfl, rfl, Nat.le_refl _, fun _ _ _ => rfl⟩

/-- Byte k of s. -/
def byteAt (s : ByteArray) (k : Nat) : Int := ((s.data[k]?).getD 0).toNat
theorem byteAt_bd (s : ByteArray) (k : Nat) : 0 ≤ byteAt s k ∧ byteAt s k < 256 := by
  unfold byteAt
  have := ((s.data[k]?).getD 0).toNat_lt
  omega
theorem bytes_of (w : World) (s : ByteArray) : ∃ c w1, (convert 9 42 (.string s)).run Tryd.prog w = .ok (.slice (some ⟨w.heap.size, 0, none⟩) s.size c) w1 ∧ w.grownBy w1 none ∧ ∀ k, k < s.size → w1.cell? ⟨w.heap.size, k, none⟩ = some (.int .u8 (byteAt s k)) := by
  refine ⟨_, _, run_bytes_of_string w 9 42 5 s u9 u42 u5, ?_, ?_⟩
  · exact grown_trans (grown_drew w) (World.grownBy_alloc w.drew _ none)
  · intro k hk
    rw [cell_of_row _ w.heap.size k _ 5 _ (heap_alloc_new w.drew _), bytesRow_at s _ k hk]
    unfold byteAt
    rw [Array.getElem?_eq_getElem hk]
    rfl

/-- The number of the first k bytes; none where one is no digit, or the number too great. -/
def rdn (s : ByteArray) : Nat → Option Int
  | 0 => some 0
  | k + 1 => match rdn s k with
    | none => none
    | some n => if 9 < (byteAt s k - 48) % 256 ∨ 4294967295 < 10 * n + (byteAt s k - 48) % 256 then none else some (10 * n + (byteAt s k - 48) % 256)
theorem rdn_none (s : ByteArray) (k m : Nat) (h : k ≤ m) (hk : rdn s k = none) : rdn s m = none := by
  induction m with
  | zero => obtain rfl : k = 0 := by omega
            exact hk
  | succ m ih =>
    rcases Nat.lt_or_ge m k with h1 | h1
    · obtain rfl : k = m + 1 := by omega
      exact hk
    · simp only [rdn, ih h1]
theorem rdn_bd (s : ByteArray) (k : Nat) (n : Int) (h : rdn s k = some n) : 0 ≤ n ∧ n ≤ 4294967295 := by
  induction k generalizing n with
  | zero => simp only [rdn, Option.some.injEq] at h; omega
  | succ k ih =>
    simp only [rdn] at h
    cases hk : rdn s k with
    | none => rw [hk] at h; cases h
    | some m =>
      rw [hk] at h
      have := ih m hk
      simp only at h
      by_cases hb : 9 < (byteAt s k - 48) % 256 ∨ 4294967295 < 10 * m + (byteAt s k - 48) % 256
      · rw [if_pos hb] at h; cases h
      · rw [if_neg hb] at h
        injection h with h
        omega

/-- What Read answers, T being the numbers' digits. -/
def readR (T : Int → ByteArray) (s : ByteArray) : Value := match rdn s s.size with
  | none => .tuple #[.int .u32 0, .bool false]
  | some n => if T n = s then .tuple #[.int .u32 n, .bool true] else .tuple #[.int .u32 0, .bool false]

theorem read_any (T : Int → ByteArray) (s : ByteArray) (hs : s.size ≤ 9223372036854775807) (w : World) (HT : ∀ n, rdn s s.size = some n → ∀ W, w.grownBy W none → Calls Tryd.prog 19 #[.int .u32 n] W fun e w' => e = .returned (.string (T n)) ∧ W.grownBy w' none) :
    Calls Tryd.prog 18 #[.string s] w fun e w' => e = .returned (readR T s) ∧ w.grownBy w' none := by
  obtain ⟨c, w1, hc, g1, cells⟩ := bytes_of w s
  have HT := Lib.hid HT
  go_enter Tryd.func18, Tryd.ntmps18
  go_wp2_with fail
  go_loopw [4, 11] (fun x i wr => ∃ (k : Nat) (n : Int), i = .int .i64 k ∧ k ≤ s.size ∧ rdn s k = some n ∧ x = .int .u64 n ∧ w.grownBy wr none ∧ w1.grownBy wr none) (fun _ i _ => s.size - (intOf i).toNat)
  case atStart => exact ⟨0, 0, rfl, Nat.zero_le _, rfl, rfl, g1, World.grownBy.refl _ _⟩
  case round =>
    obtain ⟨k, n, rfl, hk, hr, rfl, gw, gr⟩ := hrel
    have hb := rdn_bd s k n hr
    by_cases hlt : k < s.size
    · have hlt' : (k : Int) < s.size := by omega
      have x0 := gr.cell (cells k hlt) (by simp)
      have bb := byteAt_bd s k
      have hnext : rdn s (k + 1) = if 9 < (byteAt s k - 48) % 256 ∨ 4294967295 < 10 * n + (byteAt s k - 48) % 256 then none else some (10 * n + (byteAt s k - 48) % 256) := by simp only [rdn, hr]
      go_wp2_with fail
      refine (digit_any (byteAt s k) _).mono ?_
      rintro e w5 ⟨rfl, rfl⟩
      have hd : 0 ≤ (byteAt s k - 48) % 256 ∧ (byteAt s k - 48) % 256 < 256 := by omega
      generalize (byteAt s k - 48) % 256 = d at *
      by_cases h9 : 9 < d
      · have e1 : readR T s = .tuple #[.int .u32 0, .bool false] := by
          unfold readR
          rw [rdn_none s (k + 1) s.size hlt (by rw [hnext, if_pos (.inl h9)])]
        go_wp2
        all_goals exact bodyPost_ret (v := .tuple #[.int .u32 0, .bool false]) (by simp [results, Tryd.results18, go_sem]) rfl ⟨by rw [e1], gw⟩
      · by_cases hmax : 4294967295 < 10 * n + d
        · have e1 : readR T s = .tuple #[.int .u32 0, .bool false] := by
            unfold readR
            rw [rdn_none s (k + 1) s.size hlt (by rw [hnext, if_pos (.inr hmax)])]
          go_wp2
          all_goals exact bodyPost_ret (v := .tuple #[.int .u32 0, .bool false]) (by simp [results, Tryd.results18, go_sem]) rfl ⟨by rw [e1], gw⟩
        · have hr1 : rdn s (k + 1) = some (10 * n + d) := by rw [hnext, if_neg (by omega)]
          clear hnext
          go_wp2
          exact ⟨⟨k + 1, 10 * n + d, by simp, hlt, hr1, rfl, gw, gr⟩, by simp [intOf]; omega⟩
    · obtain rfl : k = s.size := by omega
      have hlt' : ¬ (s.size : Int) < s.size := by omega
      have HT2 := HT.out n hr wr gw
      have e1 : readR T s = if T n = s then .tuple #[.int .u32 n, .bool true] else .tuple #[.int .u32 0, .bool false] := by
        unfold readR
        rw [hr]
      generalize T n = t at *
      have HT2 := Lib.hid HT2
      go_wp2_with fail
      refine HT2.out.mono ?_
      rintro e w5 ⟨rfl, g5⟩
      have gw5 := grown_trans gw g5
      by_cases ht : t = s
      · subst ht
        rw [if_pos rfl] at e1
        go_wp2
        all_goals exact bodyPost_ret (v := .tuple #[.int .u32 n, .bool true]) (by simp [results, Tryd.results18, go_sem]) rfl ⟨by rw [e1], gw5⟩
      · rw [if_neg ht] at e1
        have hne : (t.toList == s.toList) = false := (Lib.bytes_beq_false_iff t s).2 ht
        clear ht
        go_wp2
        all_goals exact bodyPost_ret (v := .tuple #[.int .u32 0, .bool false]) (by simp [results, Tryd.results18, go_sem]) rfl ⟨by rw [e1], gw5⟩
end Go.Proofs.YtlaahakobghmhaaDoor
