/- The law's early: the first hundred steps, the first forty bytes of each. -/
import Derived.Test.YtdpjbkodenhelaaK
namespace Go.Proofs.Ytdpjbkodenhelaa
open Go.RowKit Go.Lib
attribute [local go_sem ↓] Go.wp_at_zero Go.wp_at_succ

/-- A step. -/
structure OpD where
  k : Int
  id : Int
  n : Int
  s : ByteArray
def OpD.cells (o : OpD) : List Value := [.int .i64 o.k, .int .i64 o.id, .int .i64 o.n, .string o.s]
def OpD.cut (o : OpD) : OpD := { o with s := if o.s.size ≤ 40 then o.s else o.s.extract 0 40 }
theorem OpD.cut_le (o : OpD) : o.cut.s.size ≤ 40 := by
  unfold OpD.cut
  by_cases h : o.s.size ≤ 40
  · simp [h]
  · simp [h]
    omega
def flat (f : Nat → OpD) : Nat → List Value
  | 0 => []
  | k + 1 => flat f k ++ (f k).cells
theorem flat_length (f : Nat → OpD) (n : Nat) : (flat f n).length = n * 4 := by
  induction n with
  | zero => rfl
  | succ n ih => simp only [flat, List.length_append, ih, OpD.cells, List.length_cons, List.length_nil]; omega
theorem flat_get (f : Nat → OpD) (n : Nat) : ∀ k, k < n → (flat f n)[k * 4]? = some (.int .i64 (f k).k) ∧ (flat f n)[k * 4 + 1]? = some (.int .i64 (f k).id) ∧ (flat f n)[k * 4 + 2]? = some (.int .i64 (f k).n) ∧ (flat f n)[k * 4 + 3]? = some (.string (f k).s) := by
  induction n with
  | zero => intro k hk; omega
  | succ n ih =>
    intro k hk
    have hl := flat_length f n
    rcases Nat.lt_or_ge k n with h | h
    · obtain ⟨a0, a1, a2, a3⟩ := ih k h
      simp only [flat]
      rw [List.getElem?_append_left (by omega), List.getElem?_append_left (by omega), List.getElem?_append_left (by omega), List.getElem?_append_left (by omega)]
      exact ⟨a0, a1, a2, a3⟩
    · obtain rfl : k = n := by omega
      simp only [flat]
      rw [List.getElem?_append_right (by omega), List.getElem?_append_right (by omega), List.getElem?_append_right (by omega), List.getElem?_append_right (by omega), hl,
        show k * 4 - k * 4 = 0 by omega, show k * 4 + 1 - k * 4 = 1 by omega, show k * 4 + 2 - k * 4 = 2 by omega, show k * 4 + 3 - k * 4 = 3 by omega]
      exact ⟨rfl, rfl, rfl, rfl⟩

/-- A slice of steps that may be read. -/
def OpsAt (w : World) (A : Option Addr) (n : Nat) (f : Nat → OpD) : Prop := ∀ k, k < n → ∃ (g o : Nat), A = some ⟨g, o, none⟩ ∧ g < w.heap.size ∧ (f k).s.size ≤ 9223372036854775807 ∧ (f k).n ≤ 9223372036854775807 ∧
  w.cell? ⟨g, o + k * 4, none⟩ = some (.int .i64 (f k).k) ∧ w.cell? ⟨g, o + k * 4 + 1, none⟩ = some (.int .i64 (f k).id) ∧ w.cell? ⟨g, o + k * 4 + 2, none⟩ = some (.int .i64 (f k).n) ∧ w.cell? ⟨g, o + k * 4 + 3, none⟩ = some (.string (f k).s)

theorem info43 : (Try.prog.info? 43).map (fun i => (i.zero, i.size, i.bytes)) = some (some (.agg #[.int .i64 0, .int .i64 0, .int .i64 0, .string ⟨#[]⟩]), 4, 40) := by kernel_rfl
theorem u33 : Try.prog.underlying 33 = some (.slice 43) := by kernel_rfl
theorem grown_new {a w : World} (h : a.grownBy w none) {p : Addr} (hp : a.heap.size ≤ p.block) (u : Value) : a.grownBy (w.setCell p u) none :=
  ⟨h.os, h.tape, h.output, by simpa [World.setCell] using h.size, fun i hi hne => (Below.heap_setCell w p u i (by omega)).trans (h.block i hi hne)⟩

theorem early_some (b o n c : Nat) (w : World) (f : Nat → OpD) (hA : OpsAt w (some ⟨b, o, none⟩) n f) :
    Calls Try.prog 16 #[.slice (some ⟨b, o, none⟩) n c] w fun e w' => ∃ v, e = .returned v ∧ w'.ownsRow w.heap.size 43 4 v (min n 100) (flat (fun k => (f k).cut) (min n 100)) ∧ w.grownBy w' none := by
  obtain ⟨i43, q1, q2, q3, q4⟩ := info_parts info43
  go_enter Try.func16, Try.ntmps16
  go_wp2_with fail
  go_loopw [3, 4] (fun v i wr => ∃ k : Nat, k ≤ min n 100 ∧ i = .int .i64 k ∧ wr.ownsRow w.heap.size 43 4 v k (flat (fun k => (f k).cut) k) ∧ w.grownBy wr none)
    (fun _ i _ => 100 - (intOf i).toNat)
  case atStart => exact ⟨0, Nat.zero_le _, rfl, World.ownsRow_nil _ _ _ _, World.grownBy.refl w _⟩
  case round =>
    obtain ⟨k, hk, rfl, hown, hgr⟩ := hrel
    by_cases hlt : k < n
    · by_cases h100 : k < 100
      · obtain ⟨b', o', hbo, hbl, hs, _, c0, c1, c2, c3⟩ := hA k hlt
        injection hbo with hbo
        injection hbo with e1 e2 e3
        subst e1 e2
        have x0 := hgr.cell c0 (by simp)
        have x1 := hgr.cell c1 (by simp)
        have x2 := hgr.cell c2 (by simp)
        have x3 := hgr.cell c3 (by simp)
        have hk2 : (k : Int) < 100 := by omega
        have hcut : flat (fun k => (f k).cut) (k + 1) = flat (fun k => (f k).cut) k ++ [.int .i64 (f k).k, .int .i64 (f k).id, .int .i64 (f k).n, .string (if (f k).s.size ≤ 40 then (f k).s else (f k).s.extract 0 40)] := rfl
        have hgz := hgr.size
        clear c0 c1 c2 c3
        generalize f k = op at *
        obtain ⟨ok, oid, on, os⟩ := op
        simp only [] at *
        by_cases h40 : os.size ≤ 40
        · have h40' : (os.size : Int) ≤ 40 := by omega
          rw [if_pos h40] at hcut
          go_wp2_with (at_builtin; refine wpList_append_own _ rfl _ _ 33 rfl w.heap.size 43 i43 _ 4 40 u33 q1 q2 q3 q4 rfl (by decide) _ _ _ rfl ((hown.alloc _).alloc _) ⟨wr.heap.size + 1, 0, none⟩ 1 1 [.int .i64 ok, .int .i64 oid, .int .i64 on, .string os] rfl rfl ?c1 ?c2 ?c3 ?c4 ?c5 ?_)
          case c1 =>
            intro j u hj
            match j, hj with
            | 0, hj => simp at hj; subst hj; simp [Addr.add]
            | 1, hj => simp at hj; subst hj; simp [Addr.add]
            | 2, hj => simp at hj; subst hj; simp [Addr.add]
            | 3, hj => simp at hj; subst hj; simp [Addr.add]
          case c2 => intro u hu; simp at hu; rcases hu with rfl | rfl | rfl | rfl <;> rfl
          case c3 => unfold maxLen; omega
          case c4 => omega
          case c5 => simp; omega
          · intro v' w1 hown' hgrow _
            have hgr1 : w.grownBy w1 none := grown_own (grown_trans (grown_trans hgr (World.grownBy_alloc wr _ none)) (World.grownBy_alloc _ _ none)) hgrow (fun x hx => (hown.lt x hx).1)
            rw [← hcut] at hown'
            clear hown hgrow
            go_wp2
            go_roundw
            case rel => exact ⟨k + 1, by omega, by simp, hown', hgr1⟩
            case measure => simp [intOf]; omega
        · have h40' : ¬ (os.size : Int) ≤ 40 := by omega
          have h41 : 40 ≤ os.size := by omega
          rw [if_neg h40] at hcut
          go_wp2_with (at_builtin; refine wpList_append_own _ rfl _ _ 33 rfl w.heap.size 43 i43 _ 4 40 u33 q1 q2 q3 q4 rfl (by decide) _ _ _ rfl ((hown.alloc _).alloc _) ⟨wr.heap.size + 1, 0, none⟩ 1 1 [.int .i64 ok, .int .i64 oid, .int .i64 on, .string (os.extract 0 40)] rfl rfl ?d1 ?d2 ?d3 ?d4 ?d5 ?_)
          case d2 => exact ⟨rfl, rfl, rfl, rfl⟩
          case d3 => unfold maxLen; omega
          case d4 => omega
          case d5 => omega
          · intro v' w1 hown' hgrow _
            have hgr1 : w.grownBy w1 none := grown_own (grown_trans (grown_trans hgr (World.grownBy_alloc wr _ none)) (World.grownBy_alloc _ _ none)) hgrow (fun x hx => (hown.lt x hx).1)
            rw [← hcut] at hown'
            clear hown hgrow
            go_wp2
            go_roundw
            case rel => exact ⟨k + 1, by omega, by simp, hown', hgr1⟩
            case measure => simp [intOf]; omega
      · have hk2 : ¬ (k : Int) < 100 := by omega
        obtain rfl : k = min n 100 := by omega
        obtain ⟨a', l', c', rfl⟩ := slice_form hown
        go_wp2
        all_goals (go_ret; exact ⟨_, rfl, hown, hgr⟩)
    · have hk2 : ¬ (k : Int) < n := by omega
      obtain rfl : k = min n 100 := by omega
      obtain ⟨a', l', c', rfl⟩ := slice_form hown
      go_wp2
      all_goals (go_ret; exact ⟨_, rfl, hown, hgr⟩)
theorem early_zero (A : Option Addr) (c : Nat) (w : World) : Calls Try.prog 16 #[.slice A 0 c] w fun e w' => e = .returned (.slice none 0 0) ∧ w = w' := by
  go_enter Try.func16, Try.ntmps16
  go_wp2_with fail
  go_loop [3, 4] (fun v i => i = .int .i64 0 ∧ v = .slice none 0 0) (fun _ i => 100 - (intOf i).toNat)
  case atStart => exact ⟨rfl, rfl⟩
  case round =>
    obtain ⟨rfl, rfl⟩ := hrel
    go_wp2
    all_goals (go_ret; exact ⟨rfl, rfl⟩)
theorem early_any (A : Option Addr) (n c : Nat) (w : World) (f : Nat → OpD) (hA : OpsAt w A n f) :
    Calls Try.prog 16 #[.slice A n c] w fun e w' => ∃ v, e = .returned v ∧ w'.ownsRow w.heap.size 43 4 v (min n 100) (flat (fun k => (f k).cut) (min n 100)) ∧ w.grownBy w' none := by
  rcases Nat.eq_zero_or_pos n with rfl | h
  · refine (early_zero A c w).mono ?_
    rintro e w' ⟨rfl, rfl⟩
    exact ⟨_, rfl, World.ownsRow_nil _ _ _ _, World.grownBy.refl w _⟩
  · obtain ⟨b, o, rfl, _⟩ := hA 0 h
    exact early_some b o n c w f hA
end Go.Proofs.Ytdpjbkodenhelaa
