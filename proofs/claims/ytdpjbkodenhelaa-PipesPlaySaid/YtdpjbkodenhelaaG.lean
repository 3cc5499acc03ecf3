/- Package pipes: All; the law's kind and does. -/
import Derived.Test.YtdpjbkodenhelaaE
namespace Go.Proofs.Ytdpjbkodenhelaa
open Go.RowKit Go.Lib
attribute [local go_sem ↓] Go.wp_at_zero Go.wp_at_succ

theorem u45 : Try.prog.underlying 45 = some (.slice 3) := by kernel_rfl
theorem info3 : (Try.prog.info? 3).map (fun i => (i.zero, i.size, i.bytes)) = some (some (.int .i64 0), 1, 8) := by kernel_rfl

/-- The first k pipes' numbers, of those that are open. -/
def opens (st : Nat → PS) : Nat → List Value
  | 0 => []
  | k + 1 => opens st k ++ (if (st k).op = true then [.int .i64 (k : Int)] else [])
theorem opens_le (st : Nat → PS) (k : Nat) : (opens st k).length ≤ k := by
  induction k with
  | zero => exact Nat.le_refl _
  | succ k ih =>
    simp only [opens, List.length_append]
    by_cases h : (st k).op = true <;> simp [h] <;> omega

section
variable {w : World} {g : Nat} {st : Nat → PS} {F : Nat → Prop}
theorem grown_own {a b c : World} {v : Value} (h : a.grownBy b none) (k : b.grownBy c v.ownBlock) (hv : ∀ x, v.ownBlock = some x → a.heap.size ≤ x) : a.grownBy c none :=
  ⟨k.os.trans h.os, k.tape.trans h.tape, k.output.trans h.output, Nat.le_trans h.size k.size, fun x hx _ => (k.block x (Nat.lt_of_lt_of_le hx h.size) (fun e => by have := hv x e.symm; omega)).trans (h.block x hx (by simp))⟩
theorem grown_trans {a b c : World} (h : a.grownBy b none) (k : b.grownBy c none) : a.grownBy c none := grown_own (v := .bool false) h k (fun _ e => by cases e)
theorem grown_keeps {a b : World} (h : a.grownBy b none) (F : Nat → Prop) : Keeps a b F := Keeps.grown h (fun _ e => by cases e)
theorem PipesAt.grown {w' : World} (h : PipesAt w g st F) (k : w.grownBy w' none) : PipesAt w' g st F := h.keeps (grown_keeps k (fun _ => False)) (fun _ _ h => h)

theorem All_at (h : PipesAt w g st F) : Calls Try.prog 20 #[.pointer (some ⟨g, 0, none⟩)] w fun e w' => ∃ v, e = .returned v ∧ w'.ownsRow w.heap.size 3 1 v (opens st 16).length (opens st 16) ∧ w.grownBy w' none := by
  obtain ⟨i3, q1, q2, q3, q4⟩ := info_parts info3
  go_enter Try.func20, Try.ntmps20
  go_wp2_with fail
  go_loopw [3, 5] (fun v i wr => ∃ k : Nat, k ≤ 16 ∧ i = .int .i64 k ∧ wr.ownsRow w.heap.size 3 1 v (opens st k).length (opens st k) ∧ w.grownBy wr none)
    (fun _ i _ => 16 - (intOf i).toNat)
  case atStart => exact ⟨0, Nat.zero_le _, rfl, World.ownsRow_nil _ _ _ _, World.grownBy.refl w _⟩
  case round =>
    obtain ⟨k, hk, rfl, hown, hgr⟩ := hrel
    have hp := h.grown hgr
    obtain ⟨vs, hF, _⟩ := hp.ex
    have hle := opens_le st k
    by_cases hlt : k < 16
    · cases hop : (st k).op with
      | false =>
        go_wp2_with fail
        refine (Is_in hF k hlt).mono ?_
        rintro e w1 ⟨rfl, rfl⟩
        rw [hop]
        go_wp2
        go_roundw
        case rel => exact ⟨k + 1, by omega, by simp, by simp only [opens, hop]; simpa using hown, hgr⟩
        case measure => simp [intOf]; omega
      | true =>
        go_wp2_with fail
        refine (Is_in hF k hlt).mono ?_
        rintro e w1 ⟨rfl, rfl⟩
        rw [hop]
        go_wp2_with (at_builtin; refine wpList_append_own _ rfl _ _ 45 rfl w.heap.size 3 i3 (.int .i64 0) 1 8 u45 q1 q2 q3 q4 rfl (by decide) _ _ _ rfl (hown.alloc _) ⟨wr.heap.size, 0, none⟩ 1 1 [.int .i64 k] rfl rfl ?c1 ?c2 ?c3 ?c4 ?c5 ?_)
        case c1 =>
          intro j u hj
          match j, hj with
          | 0, hj => simp at hj; subst hj; simp [Addr.add]
        case c2 => intro u hu; simp at hu; subst hu; rfl
        case c3 => unfold maxLen; omega
        case c4 => omega
        case c5 => have := hgr.size; simp; omega
        · intro v' w1 hown' hgrow _
          have hgr1 : w.grownBy w1 none := grown_own (grown_trans hgr (World.grownBy_alloc wr _ none)) hgrow (fun x hx => (hown.lt x hx).1)
          have hown2 : w1.ownsRow w.heap.size 3 1 v' (opens st (k + 1)).length (opens st (k + 1)) := by
            simp only [opens, hop, if_pos, List.length_append, List.length_cons, List.length_nil]
            exact hown'
          clear hown' hgrow hown hgr
          go_wp2
          go_roundw
          case rel => exact ⟨k + 1, by omega, by simp, hown2, hgr1⟩
          case measure => simp [intOf]; omega
    · obtain rfl : k = 16 := by omega
      obtain ⟨a', l', c', rfl⟩ := slice_form hown
      go_wp2
      all_goals (go_ret; exact ⟨_, rfl, hown, hgr⟩)
end
theorem All_nil (w : World) : Calls Try.prog 20 #[.pointer none] w fun e w' => e = .returned (.slice none 0 0) ∧ w = w' := by
  go_enter Try.func20, Try.ntmps20
  go_wp2_with fail
  go_loop [3, 5] (fun v i => ∃ k : Nat, k ≤ 16 ∧ i = .int .i64 k ∧ v = .slice none 0 0)
    (fun _ i => 16 - (intOf i).toNat)
  case atStart => exact ⟨0, Nat.zero_le _, rfl, rfl⟩
  case round =>
    obtain ⟨k, hk, rfl, rfl⟩ := hrel
    by_cases hlt : k < 16
    · go_wp2_with fail
      refine (Is_nil _ _).mono ?_
      rintro e w1 ⟨rfl, rfl⟩
      go_wp2
      go_roundw
      case rel => exact ⟨k + 1, by omega, by simp, rfl⟩
      case measure => simp [intOf]; omega
    · obtain rfl : k = 16 := by omega
      go_wp2
      all_goals (go_ret; exact ⟨rfl, rfl⟩)

/-- A step: kind, connection, number, bytes. -/
def opVal (k id n : Int) (s : ByteArray) : Value := .agg #[.int .i64 k, .int .i64 id, .int .i64 n, .string s]
theorem wrap_mod4 (k : Int) : IntKind.i64.wrap ((IntKind.u64.wrap k).tmod 4) = k % 4 := by
  have e : IntKind.u64.wrap k = k % 18446744073709551616 := by simp [IntKind.wrap, IntKind.bits, IntKind.signed]
  rw [e, Int.tmod_eq_emod_of_nonneg (by omega), Int.emod_emod_of_dvd k (by decide)]
  exact IntWalk.i64_in _ (by omega)
theorem kind_any (k id n : Int) (s : ByteArray) (w : World) : Calls Try.prog 25 #[.agg #[.int .i64 k, .int .i64 id, .int .i64 n, .string s]] w fun e w' => e = .returned (.int .i64 (k % 4)) ∧ w.grownBy w' none := by
  have e1 := wrap_mod4 k
  go_enter Try.func25, Try.ntmps25
  go_wp2
  all_goals (go_ret; exact ⟨rfl, World.grownBy_alloc w _ none⟩)

/-- A step's answer, and the pipes behind it. -/
def stp (st : Nat → PS) (k id n : Int) (s : ByteArray) : Int × (Nat → PS) :=
  if k % 4 = 0 then at_ opn st id else if k % 4 = 1 then at_ (wrt s) st id else if k % 4 = 2 then at_ (brk n) st id else at_ cls st id

theorem Stepped.after {w w1 w' : World} {g : Nat} {st' : Nat → PS} {F : Nat → Prop} (h : Stepped w1 w' g st' F) (k : w.grownBy w1 none) : Stepped w w' g st' F := by
  obtain ⟨F', h1, h2, h3⟩ := h
  exact ⟨F', h1, (grown_keeps k F).trans h2 (fun _ hx => .inl hx), fun x hx => (h3 x hx).imp id fun h => Nat.le_trans k.size h⟩
theorem does_any {w : World} {g : Nat} {st : Nat → PS} {F : Nat → Prop} (h : PipesAt w g st F) (k id n : Int) (s : ByteArray) (hn : n ≤ 9223372036854775807) (hs : ∀ i, i < 16 → (st i).out.size + s.size ≤ limit) :
    Calls Try.prog 17 #[.pointer (some ⟨g, 0, none⟩), opVal k id n s] w fun e w' => e = .returned (.int .i64 (stp st k id n s).1) ∧ Stepped w w' g (stp st k id n s).2 F := by
  unfold opVal
  go_enter Try.func17, Try.ntmps17
  go_wp2_with fail
  refine (kind_any k id n s _).mono ?_
  rintro e w1 ⟨rfl, hg⟩
  have hb := (Blk.new w 43 #[.int .i64 k, .int .i64 id, .int .i64 n, .string s]).grown hg (by simp)
  have hg1 := grown_trans (World.grownBy_alloc w (.cells #[.int .i64 k, .int .i64 id, .int .i64 n, .string s] 43) none) hg
  clear hg
  have hp := h.grown hg1
  have x1 := hb.cell 1
  have x2 := hb.cell 2
  have x3 := hb.cell 3
  simp only [List.getElem?_toArray, List.getElem?_cons_zero, List.getElem?_cons_succ] at x1 x2 x3
  rcases (by omega : k % 4 = 0 ∨ k % 4 = 1 ∨ k % 4 = 2 ∨ k % 4 = 3) with hk | hk | hk | hk
  all_goals rw [hk]
  · go_wp2_with fail
    refine (Open_at hp id).mono ?_
    rintro e w2 ⟨rfl, hst⟩
    go_wp2
    all_goals (go_ret; rw [show stp st k id n s = at_ opn st id by simp [stp, hk]]; exact ⟨rfl, hst.after hg1⟩)
  · go_wp2_with fail
    refine (Write_at hp id s hs).mono ?_
    rintro e w2 ⟨rfl, hst⟩
    go_wp2
    all_goals (go_ret; rw [show stp st k id n s = at_ (wrt s) st id by simp [stp, hk]]; exact ⟨rfl, hst.after hg1⟩)
  · go_wp2_with fail
    refine (Break_at hp id n hn).mono ?_
    rintro e w2 ⟨rfl, hst⟩
    go_wp2
    all_goals (go_ret; rw [show stp st k id n s = at_ (brk n) st id by simp [stp, hk]]; exact ⟨rfl, hst.after hg1⟩)
  · go_wp2_with fail
    refine (Close_at hp id).mono ?_
    rintro e w2 ⟨rfl, hst⟩
    go_wp2
    all_goals (go_ret; rw [show stp st k id n s = at_ cls st id by simp [stp, hk]]; exact ⟨rfl, hst.after hg1⟩)
theorem does_nil (k id n : Int) (s : ByteArray) (w : World) :
    Calls Try.prog 17 #[.pointer none, opVal k id n s] w fun e w' => e = .returned (.int .i64 1) ∧ w.grownBy w' none := by
  unfold opVal
  go_enter Try.func17, Try.ntmps17
  go_wp2_with fail
  refine (kind_any k id n s _).mono ?_
  rintro e w1 ⟨rfl, hg⟩
  have hb := (Blk.new w 43 #[.int .i64 k, .int .i64 id, .int .i64 n, .string s]).grown hg (by simp)
  have hg1 := grown_trans (World.grownBy_alloc w (.cells #[.int .i64 k, .int .i64 id, .int .i64 n, .string s] 43) none) hg
  clear hg
  have x1 := hb.cell 1
  have x2 := hb.cell 2
  have x3 := hb.cell 3
  simp only [List.getElem?_toArray, List.getElem?_cons_zero, List.getElem?_cons_succ] at x1 x2 x3
  rcases (by omega : k % 4 = 0 ∨ k % 4 = 1 ∨ k % 4 = 2 ∨ k % 4 = 3) with hk | hk | hk | hk
  all_goals rw [hk]
  · go_wp2_with fail
    refine (Open_nil id _).mono ?_
    rintro e w2 ⟨rfl, rfl⟩
    go_wp2
    all_goals (go_ret; exact ⟨rfl, hg1⟩)
  · go_wp2_with fail
    refine (Write_nil id s _).mono ?_
    rintro e w2 ⟨rfl, rfl⟩
    go_wp2
    all_goals (go_ret; exact ⟨rfl, hg1⟩)
  · go_wp2_with fail
    refine (Break_nil id n _).mono ?_
    rintro e w2 ⟨rfl, rfl⟩
    go_wp2
    all_goals (go_ret; exact ⟨rfl, hg1⟩)
  · go_wp2_with fail
    refine (Close_nil id _).mono ?_
    rintro e w2 ⟨rfl, rfl⟩
    go_wp2
    all_goals (go_ret; exact ⟨rfl, hg1⟩)
end Go.Proofs.Ytdpjbkodenhelaa
