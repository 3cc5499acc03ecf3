/- Package pipes: what each law asks first (lives). -/
import Derived.Test.YtdpjbkodenhelaaG
namespace Go.Proofs.Ytdpjbkodenhelaa
open Go.RowKit Go.Lib
attribute [local go_sem ↓] Go.wp_at_zero Go.wp_at_succ

theorem Stepped.grown {a w w' : World} {g : Nat} {st' : Nat → PS} {F : Nat → Prop} (h : Stepped w w' g st' F) (k : a.grownBy w none) (hF : ∀ x, F x → a.heap.size ≤ x) :
    ∃ F', PipesAt w' g st' F' ∧ a.grownBy w' none ∧ (∀ x, F' x → a.heap.size ≤ x) := by
  obtain ⟨F', h1, h2, h3⟩ := h
  exact ⟨F', h1, ⟨h2.os.trans k.os, h2.tape.trans k.tape, h2.output.trans k.output, Nat.le_trans k.size h2.size, fun x hx _ => (h2.block x (Nat.lt_of_lt_of_le hx k.size) (fun hf => by have := hF x hf; omega)).trans (k.block x hx (by simp))⟩,
    fun x hx => by
      rcases h3 x hx with h | h
      · exact hF x h
      · exact Nat.le_trans k.size h⟩
def s1 : Nat → PS := upd st0 0 ⟨true, false, -1, ByteArray.empty⟩
def s2 : Nat → PS := upd s1 0 ⟨true, false, 2, ByteArray.empty⟩
def s3 : Nat → PS := upd s2 0 ⟨true, true, 0, ⟨#[97, 98]⟩⟩
theorem l1 : at_ opn st0 0 = (0, s1) := rfl
theorem l2 : at_ (brk 2) s1 0 = (0, s2) := rfl
theorem l3 : at_ (wrt ⟨#[97, 98, 99]⟩) s2 0 = (12, s3) := rfl
theorem s2_out (i : Nat) : (s2 i).out = ByteArray.empty := by
  unfold s2 s1 upd
  by_cases e : i = 0 <;> simp [e, st0]
theorem s3_open : (opens s3 16).length = 1 := by
  have h : ∀ j, j ≠ 0 → (s3 j).op = false := by
    intro j hj
    unfold s3 s2 s1 upd
    simp [hj, st0]
  have h0 : (s3 0).op = true := rfl
  have k : ∀ n, (opens s3 (n + 1)).length = 1 := by
    intro n
    induction n with
    | zero => simp [opens, h0]
    | succ n ih =>
      have e : opens s3 (n + 1 + 1) = opens s3 (n + 1) := by
        show opens s3 (n + 1) ++ (if (s3 (n + 1)).op = true then _ else _) = _
        rw [h (n + 1) (by omega)]
        simp
      rw [e]; exact ih
  exact k 15

theorem lives_any (w : World) : Calls Try.prog 8 #[] w fun e w' => e = .returned (.bool true) ∧ w.grownBy w' none := by
  go_enter Try.func8, Try.ntmps8
  go_wp2_with fail
  refine (New_any w).mono ?_
  rintro e w1 ⟨rfl, hp1, g1⟩
  go_wp2_with fail
  refine (Open_at hp1 0).mono ?_
  rw [l1]
  rintro e w2 ⟨rfl, hs2⟩
  obtain ⟨F2, hp2, g2, b2⟩ := hs2.grown g1 (fun x hx => by omega)
  clear hs2 hp1 g1
  go_wp2_with fail
  refine (Break_at hp2 0 2 (by omega)).mono ?_
  rw [l2]
  rintro e w3 ⟨rfl, hs3⟩
  obtain ⟨F3, hp3, g3, b3⟩ := hs3.grown g2 b2
  clear hs3 hp2 g2 b2
  go_wp2_with fail
  refine (Write_at hp3 0 ⟨#[97, 98, 99]⟩ (fun i _ => by rw [s2_out]; decide)).mono ?_
  rw [l3]
  rintro e w4 ⟨rfl, hs4⟩
  obtain ⟨F4, hp4, g4, b4⟩ := hs4.grown g3 b3
  clear hs4 hp3 g3 b3
  go_wp2_with fail
  have o4 := Out_in hp4 0 (by decide)
  rw [show (s3 0).out = ⟨#[97, 98]⟩ from rfl] at o4
  refine o4.mono ?_
  rintro e w5 ⟨rfl, rfl⟩
  clear o4
  obtain ⟨vs, h4, _⟩ := hp4.ex
  go_wp2_with fail
  have o4 := Is_in h4 0 (by decide)
  rw [show (s3 0).op = true from rfl] at o4
  refine o4.mono ?_
  rintro e w5 ⟨rfl, rfl⟩
  clear o4
  go_wp2_with fail
  have o4 := Whole_in h4 0 (by decide)
  rw [show ((s3 0).op && !(s3 0).br) = false from rfl] at o4
  refine o4.mono ?_
  rintro e w5 ⟨rfl, rfl⟩
  clear o4
  go_wp2_with fail
  refine (All_at hp4).mono ?_
  rintro e w5 ⟨v, rfl, hown, hg5⟩
  rw [s3_open] at hown
  obtain ⟨a', c', rfl⟩ : ∃ a c, v = .slice a 1 c := by
    rcases hown.2 with ⟨_, h⟩ | ⟨b, cap, _, rfl, _⟩
    · omega
    · exact ⟨_, _, rfl⟩
  have g5 := grown_trans g4 hg5
  clear hown hg5
  go_wp2
  all_goals (go_ret; exact ⟨rfl, g5⟩)
end Go.Proofs.Ytdpjbkodenhelaa
