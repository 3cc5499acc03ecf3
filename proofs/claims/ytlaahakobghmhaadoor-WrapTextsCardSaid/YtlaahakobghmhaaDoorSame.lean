/- The document's Read answers as the program's: plain facts on digits. -/
import Derived.Test.YtlaahakobghmhaaDoorRead
namespace Go.Proofs.YtlaahakobghmhaaDoor
open Go Go.RowKit Go.Lib

theorem rdn_rv (s : ByteArray) (k : Nat) : rdn s k = match rv s k with
    | none => none
    | some n => if n ≤ 4294967295 then some n else none := by
  induction k with
  | zero => simp [rdn, rv]
  | succ k ih =>
    simp only [rdn, rv]
    rw [ih]
    cases h : rv s k with
    | none => simp
    | some n =>
      have bb := byteAt_bd s k
      have hn := rv_bd s k n h
      simp only
      by_cases h1 : n ≤ 4294967295
      · rw [if_pos h1]
        simp only
        by_cases h2 : byteAt s k < 48 ∨ 57 < byteAt s k
        · rw [if_pos h2, if_pos (by omega)]
        · rw [if_neg h2]
          simp only
          rw [show (byteAt s k - 48) % 256 = byteAt s k - 48 by omega]
          by_cases h3 : 10 * n + (byteAt s k - 48) ≤ 4294967295
          · rw [if_pos h3, if_neg (by omega)]
          · rw [if_neg h3, if_pos (by omega)]
      · rw [if_neg h1]
        simp only
        by_cases h2 : byteAt s k < 48 ∨ 57 < byteAt s k
        · rw [if_pos h2]
        · rw [if_neg h2]
          simp only
          rw [if_neg (by omega)]

theorem dd_small (u : Nat) (h : u < 10) : decDigits u = [UInt8.ofNat (48 + u)] := by rw [decDigits, dif_pos h]
theorem dd_big (u : Nat) (h : ¬ u < 10) : decDigits u = decDigits (u / 10) ++ [UInt8.ofNat (48 + u % 10)] := by rw [decDigits, dif_neg h]
theorem dd_pos (u : Nat) : 1 ≤ (decDigits u).length := by
  by_cases h : u < 10
  · rw [dd_small u h]; simp
  · rw [dd_big u h]; simp
theorem dd_len (k : Nat) : ∀ u, u < 10 ^ (k + 1) → (decDigits u).length ≤ k + 1 := by
  induction k with
  | zero => intro u hu; rw [dd_small u (by simpa using hu)]; simp
  | succ k ih =>
    intro u hu
    by_cases h : u < 10
    · rw [dd_small u h]; simp
    · rw [dd_big u h]
      have := ih (u / 10) (by
        rw [Nat.pow_succ] at hu
        omega)
      simp
      omega
theorem dd_first (u : Nat) (h1 : 1 ≤ u) : byteAt (digits u) 0 ≠ 48 := by
  induction u using Nat.strongRecOn with
  | _ u ih =>
    by_cases h : u < 10
    · rw [byteAt_digits, dd_small u h]
      simp
      omega
    · have k := ih (u / 10) (by omega) (by omega)
      rw [byteAt_digits] at k ⊢
      rw [dd_big u h, List.getElem?_append_left (by have := dd_pos (u / 10); omega)]
      exact k
theorem dd_one (u : Nat) (h : 1 < (decDigits u).length) : 1 ≤ u := by
  rcases Nat.eq_zero_or_pos u with rfl | h0
  · rw [dd_small 0 (by decide)] at h
    simp at h
  · exact h0

theorem byte_back (b : UInt8) (h : 48 ≤ b.toNat) : UInt8.ofNat (48 + (b.toNat - 48)) = b := by
  rw [show 48 + (b.toNat - 48) = b.toNat by omega]
  simp
/-- A numeral without a needless nought is its number's digits. -/
theorem canon (s : ByteArray) (k : Nat) : ∀ m, k + 1 ≤ s.size → rv s (k + 1) = some m → (k = 0 ∨ byteAt s 0 ≠ 48) → decDigits m.toNat = s.data.toList.take (k + 1) ∧ (byteAt s 0 ≠ 48 → 1 ≤ m) := by
  induction k with
  | zero =>
    intro m hk hr _
    have hk0 : 0 < s.data.toList.length := by
      have : s.data.toList.length = s.size := Array.length_toList
      omega
    have hg : byteAt s 0 = ((s.data.toList[0]).toNat : Int) := by
      unfold byteAt
      rw [Array.getElem?_eq_getElem (show 0 < s.data.size from hk)]
      simp
    simp only [rv] at hr
    by_cases hb : byteAt s 0 < 48 ∨ 57 < byteAt s 0
    · rw [if_pos hb] at hr; cases hr
    · rw [if_neg hb] at hr
      injection hr with hr
      refine ⟨?_, fun h => by omega⟩
      have e : m.toNat = (s.data.toList[0]).toNat - 48 := by omega
      rw [e, dd_small _ (by omega), byte_back _ (by omega)]
      obtain ⟨⟨l⟩⟩ := s
      cases l with
      | nil => simp at hk0
      | cons a l => simp
  | succ k ih =>
    intro m hk hr hz
    have hz1 : byteAt s 0 ≠ 48 := by omega
    have hk0 : k + 1 < s.data.toList.length := by
      have : s.data.toList.length = s.size := Array.length_toList
      omega
    have hg : byteAt s (k + 1) = ((s.data.toList[k + 1]).toNat : Int) := by
      unfold byteAt
      rw [Array.getElem?_eq_getElem (show k + 1 < s.data.size from hk)]
      simp
    rw [rv] at hr
    cases hp : rv s (k + 1) with
    | none => rw [hp] at hr; cases hr
    | some p =>
      rw [hp] at hr
      simp only at hr
      obtain ⟨i1, i2⟩ := ih p (by omega) hp (.inr hz1)
      have i3 := i2 hz1
      by_cases hb : byteAt s (k + 1) < 48 ∨ 57 < byteAt s (k + 1)
      · rw [if_pos hb] at hr; cases hr
      · rw [if_neg hb] at hr
        injection hr with hr
        refine ⟨?_, fun _ => by omega⟩
        rw [dd_big m.toNat (by omega), show m.toNat / 10 = p.toNat by omega, i1, show m.toNat % 10 = (s.data.toList[k + 1]).toNat - 48 by omega, byte_back _ (by omega)]
        conv => rhs; rw [List.take_add_one]
        rw [List.getElem?_eq_getElem hk0]
        rfl

/-- What the document's Read answers. -/
def rr (s : ByteArray) : Value := if s.size = 0 ∨ 10 < s.size ∨ (byteAt s 0 = 48 ∧ 1 < s.size) then .tuple #[.int .u32 0, .bool false] else rrest s
theorem rread_any (s : ByteArray) (w : World) : Calls Tryd.prog 20 #[.string s] w fun e w' => e = .returned (rr s) ∧ w = w' := by
  unfold rr
  by_cases h0 : s.size = 0
  · rw [if_pos (.inl h0)]
    have e : s = ⟨#[]⟩ := by
      obtain ⟨d⟩ := s
      have : d = #[] := Array.size_eq_zero_iff.1 h0
      rw [this]
    rw [e]
    exact rread_e w
  · by_cases h1 : 10 < s.size
    · rw [if_pos (.inr (.inl h1))]
      exact rread_d s h1 w
    · by_cases h2 : byteAt s 0 = 48
      · by_cases h3 : 1 < s.size
        · rw [if_pos (.inr (.inr ⟨h2, h3⟩))]
          exact rread_c s h3 (by omega) h2 w
        · rw [if_neg (by omega)]
          exact rread_b s (by omega) h2 w
      · rw [if_neg (by omega)]
        exact rread_a s (by omega) (by omega) h2 w
theorem same_read (s : ByteArray) : readR T s = rr s := by
  unfold readR rr rrest
  rw [rdn_rv]
  have hd : ∀ n : Int, 0 ≤ n → n ≤ 4294967295 → T n = s → ¬ (s.size = 0 ∨ 10 < s.size ∨ (byteAt s 0 = 48 ∧ 1 < s.size)) := by
    intro n h0 h1 ht
    subst ht
    unfold T
    rw [digits_size]
    have a1 := dd_pos n.toNat
    have a2 := dd_len 9 n.toNat (by omega)
    rintro (h | h | ⟨h, h'⟩)
    · omega
    · omega
    · exact dd_first n.toNat (dd_one _ h') h
  cases hr : rv s s.size with
  | none => simp
  | some n =>
    have hn := rv_bd s _ n hr
    simp only
    by_cases h1 : n ≤ 4294967295
    · have hbig : ¬ 4294967296 ≤ n := by omega
      rw [if_pos h1, if_neg hbig]
      simp only
      by_cases ht : T n = s
      · rw [if_pos ht, if_neg (hd n hn.1 h1 ht)]
      · rw [if_neg ht]
        by_cases hc : s.size = 0 ∨ 10 < s.size ∨ (byteAt s 0 = 48 ∧ 1 < s.size)
        · rw [if_pos hc]
        · exfalso
          apply ht
          obtain ⟨k, hk⟩ : ∃ k, s.size = k + 1 := ⟨s.size - 1, by omega⟩
          have c := (canon s k n (by omega) (by rw [← hk]; exact hr) (by omega)).1
          unfold T digits
          rw [c, ← hk]
          obtain ⟨⟨l⟩⟩ := s
          simp [ByteArray.size]
    · have hbig : 4294967296 ≤ n := by omega
      rw [if_neg h1, if_pos hbig]
      simp
end Go.Proofs.YtlaahakobghmhaaDoor
