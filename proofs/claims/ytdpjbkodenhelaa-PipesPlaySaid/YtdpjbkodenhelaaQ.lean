/- The law's doesRef; SameInts; the pipes and the document's pipes beside one another. -/
import Derived.Test.YtdpjbkodenhelaaP
namespace Go.Proofs.Ytdpjbkodenhelaa
open Go.RowKit Go.Lib
attribute [local go_sem ↓] Go.wp_at_zero Go.wp_at_succ

section
variable {w : World} {r : Nat} {st : Nat → PS}
theorem rWrite_at (h : Four w r 39 st (strs st)) (id : Int) (s : ByteArray) (hl : ∀ i, i < 16 → -1 ≤ (st i).left ∧ (st i).left ≤ 9223372036854775807) (hs : ∀ i, i < 16 → (st i).out.size + s.size ≤ limit) : Calls Try.prog 27 #[.pointer (some ⟨r, 0, none⟩), .int .i64 id, .string s] w fun e w' => e = .returned (.int .i64 (at_ (wrt s) st id).1) ∧ RefTo w w' r (at_ (wrt s) st id).2 := by
  by_cases hi : id < 0 ∨ 16 ≤ id
  · rw [at_out _ _ _ hi]
    go_enter Try.func27, Try.ntmps27
    go_wp2_with fail
    refine (there_out id hi _).mono ?_
    rintro e w1 ⟨rfl, rfl⟩
    go_wp2
    all_goals (go_ret; exact ⟨rfl, h, World.grownBy.refl _ _⟩)
  · obtain ⟨i, rfl⟩ : ∃ i : Nat, id = i := ⟨id.toNat, by omega⟩
    have hi : i < 16 := by omega
    rw [at_in _ _ _ hi]
    cases hop : (st i).op with
    | false =>
      have e1 : wrt s (st i) = (12, st i) := by simp [wrt, wri, hop]
      rw [e1, upd_self]
      have x0 := h.c0 hi
      rw [hop] at x0
      have k1 : ¬ (i : Int) < 0 := by omega
      have k2 : (i : Int) < 16 := by omega
      go_enter Try.func27, Try.ntmps27
      go_wp2_with fail
      refine (there_in i hi _).mono ?_
      rintro e w1 ⟨rfl, rfl⟩
      go_wp2
      all_goals (go_ret; exact ⟨rfl, h, World.grownBy.refl _ _⟩)
    | true =>
      cases hbr : (st i).br with
      | true =>
        have e1 : wrt s (st i) = (12, st i) := by simp [wrt, wri, hbr]
        rw [e1, upd_self]
        have x0 := h.c0 hi
        have x1 := h.c1 hi
        rw [hop] at x0
        rw [hbr] at x1
        have k1 : ¬ (i : Int) < 0 := by omega
        have k2 : (i : Int) < 16 := by omega
        go_enter Try.func27, Try.ntmps27
        go_wp2_with fail
        refine (there_in i hi _).mono ?_
        rintro e w1 ⟨rfl, rfl⟩
        go_wp2
        all_goals (go_ret; exact ⟨rfl, h, World.grownBy.refl _ _⟩)
      | false => exact rWrite_live h i s hi hop hbr (hl i hi) (hs i hi)

theorem RefTo.after {w1 w' : World} {st' : Nat → PS} (h : RefTo w1 w' r st') (k : w.grownBy w1 none) : RefTo w w' r st' :=
  ⟨h.1, ⟨h.2.os.trans k.os, h.2.tape.trans k.tape, h.2.output.trans k.output, Nat.le_trans k.size h.2.size, fun x hx hn => (h.2.block x (Nat.lt_of_lt_of_le hx k.size) hn).trans (k.block x hx (by simp))⟩⟩
theorem doesRef_any (h : Four w r 39 st (strs st)) (k id n : Int) (s : ByteArray) (hl : ∀ i, i < 16 → -1 ≤ (st i).left ∧ (st i).left ≤ 9223372036854775807) (hs : ∀ i, i < 16 → (st i).out.size + s.size ≤ limit) :
    Calls Try.prog 18 #[.pointer (some ⟨r, 0, none⟩), opVal k id n s] w fun e w' => e = .returned (.int .i64 (stp st k id n s).1) ∧ RefTo w w' r (stp st k id n s).2 := by
  have hr := h.lt
  unfold opVal
  go_enter Try.func18, Try.ntmps18
  go_wp2_with fail
  refine (kind_any k id n s _).mono ?_
  rintro e w1 ⟨rfl, hg⟩
  have hb := (Blk.new w 43 #[.int .i64 k, .int .i64 id, .int .i64 n, .string s]).grown hg (by simp)
  have hg1 := grown_trans (World.grownBy_alloc w (.cells #[.int .i64 k, .int .i64 id, .int .i64 n, .string s] 43) none) hg
  clear hg
  have hp : Four w1 r 39 st (strs st) := h.same (hg1.block r hr (by simp))
  have x1 := hb.cell 1
  have x2 := hb.cell 2
  have x3 := hb.cell 3
  simp only [List.getElem?_toArray, List.getElem?_cons_zero, List.getElem?_cons_succ] at x1 x2 x3
  rcases (by omega : k % 4 = 0 ∨ k % 4 = 1 ∨ k % 4 = 2 ∨ k % 4 = 3) with hk | hk | hk | hk
  all_goals rw [hk]
  · go_wp2_with fail
    refine (rOpen_at hp id).mono ?_
    rintro e w2 ⟨rfl, hst⟩
    go_wp2
    all_goals (go_ret; rw [show stp st k id n s = at_ opn st id by simp [stp, hk]]; exact ⟨rfl, hst.after hg1⟩)
  · go_wp2_with fail
    refine (rWrite_at hp id s hl hs).mono ?_
    rintro e w2 ⟨rfl, hst⟩
    go_wp2
    all_goals (go_ret; rw [show stp st k id n s = at_ (wrt s) st id by simp [stp, hk]]; exact ⟨rfl, hst.after hg1⟩)
  · go_wp2_with fail
    refine (rBreak_at hp id n).mono ?_
    rintro e w2 ⟨rfl, hst⟩
    go_wp2
    all_goals (go_ret; rw [show stp st k id n s = at_ (brk n) st id by simp [stp, hk]]; exact ⟨rfl, hst.after hg1⟩)
  · go_wp2_with fail
    refine (rClose_at hp id).mono ?_
    rintro e w2 ⟨rfl, hst⟩
    go_wp2
    all_goals (go_ret; rw [show stp st k id n s = at_ cls st id by simp [stp, hk]]; exact ⟨rfl, hst.after hg1⟩)
end

/-- Numbers, all of them. -/
theorem opens_int (st : Nat → PS) (n : Nat) : ∀ j, j < (opens st n).length → ∃ z : Int, (opens st n)[j]? = some (.int .i64 z) := by
  induction n with
  | zero => intro j hj; simp [opens] at hj
  | succ n ih =>
    intro j hj
    rcases Nat.lt_or_ge j (opens st n).length with h | h
    · obtain ⟨z, hz⟩ := ih j h
      exact ⟨z, by simp only [opens]; rw [List.getElem?_append_left h]; exact hz⟩
    · simp only [opens] at hj ⊢
      rw [List.getElem?_append_right h]
      by_cases ho : (st n).op = true
      · rw [if_pos ho] at hj ⊢
        simp only [List.length_append, List.length_cons, List.length_nil] at hj
        exact ⟨n, by rw [show j - (opens st n).length = 0 by omega]; rfl⟩
      · rw [if_neg ho] at hj
        simp at hj
        omega
theorem same_zero (A B : Option Addr) (c d : Nat) (w : World) : Calls Try.prog 19 #[.slice A 0 c, .slice B 0 d] w fun e w' => e = .returned (.bool true) ∧ w.grownBy w' none := by
  go_enter Try.func19, Try.ntmps19
  go_wp2_with fail
  go_loopw [5] (fun i wr => i = .int .i64 0 ∧ w.grownBy wr none) (fun i _ => 100 - (intOf i).toNat)
  case atStart => exact ⟨rfl, World.grownBy.refl _ _⟩
  case round =>
    obtain ⟨rfl, hg⟩ := hrel
    go_wp2
    all_goals (go_ret; exact ⟨rfl, hg⟩)
theorem same_some (w : World) (a b n c d : Nat) (hn : n ≤ 9223372036854775807) (h : ∀ k, k < n → ∃ z : Int, w.cell? ⟨a, k, none⟩ = some (.int .i64 z) ∧ w.cell? ⟨b, k, none⟩ = some (.int .i64 z)) :
    Calls Try.prog 19 #[.slice (some ⟨a, 0, none⟩) n c, .slice (some ⟨b, 0, none⟩) n d] w fun e w' => e = .returned (.bool true) ∧ w.grownBy w' none := by
  go_enter Try.func19, Try.ntmps19
  go_wp2_with fail
  go_loopw [5] (fun i wr => ∃ k : Nat, i = .int .i64 k ∧ k ≤ n ∧ w.grownBy wr none) (fun i _ => n - (intOf i).toNat)
  case atStart => exact ⟨0, rfl, Nat.zero_le _, World.grownBy.refl _ _⟩
  case round =>
    obtain ⟨k, rfl, hk, hg⟩ := hrel
    by_cases hlt : k < n
    · have hlt' : (k : Int) < n := by omega
      obtain ⟨z, x0, x1⟩ := h k hlt
      have y0 := hg.cell x0 (by simp)
      have y1 := hg.cell x1 (by simp)
      clear x0 x1
      go_wp2_with fail
      go_region
      go_wp2_with fail
      exact ⟨⟨k + 1, by simp, hlt, grown_trans hg (grown_drew _)⟩, by simp [intOf]; omega⟩
    · obtain rfl : k = n := by omega
      have hlt' : ¬ (k : Int) < k := by omega
      go_wp2
      all_goals (go_ret; exact ⟨rfl, hg⟩)
theorem same_own {w : World} {b1 b2 : Nat} {v1 v2 : Value} {xs : List Value} (h1 : w.ownsRow b1 3 1 v1 xs.length xs) (h2 : w.ownsRow b2 3 1 v2 xs.length xs) (hx : ∀ j, j < xs.length → ∃ z : Int, xs[j]? = some (.int .i64 z)) (hn : xs.length ≤ 9223372036854775807) :
    Calls Try.prog 19 #[v1, v2] w fun e w' => e = .returned (.bool true) ∧ w.grownBy w' none := by
  rcases h1.2 with ⟨rfl, e1⟩ | ⟨a, c, cur, rfl, _⟩
  · rcases h2.2 with ⟨rfl, e2⟩ | ⟨b, d, cur2, rfl, _⟩
    · exact same_zero _ _ _ _ w
    · rw [e1]; exact same_zero _ _ _ _ w
  · rcases h2.2 with ⟨rfl, e2⟩ | ⟨b, d, cur2, rfl, _⟩
    · rw [e2]; exact same_zero _ _ _ _ w
    · refine same_some w a b xs.length c d hn (fun k hk => ?_)
      obtain ⟨z, hz⟩ := hx k hk
      have k1 := h1.cells (g := a) rfl k _ hz
      have k2 := h2.cells (g := b) rfl k _ hz
      rw [Go.WideShapes.add_plain, Nat.zero_add] at k1 k2
      exact ⟨z, k1, k2⟩

/-- The pipes and the document's pipes, of which nobody else knows. -/
def R2 (w0 : World) (P1 : Nat → Prop) (w : World) (g : Nat) (s1 : Nat → PS) (r : Nat) (s2 : Nat → PS) : Prop :=
  ∃ F, PipesAt w g s1 F ∧ Four w r 39 s2 (strs s2) ∧ ¬ F r ∧ (∀ x, F x → P1 x ∨ w0.heap.size ≤ x) ∧ Keeps w0 w (fun x => P1 x ∨ x = r)
section
variable {w0 w : World} {P1 : Nat → Prop} {g r : Nat} {s1 s2 : Nat → PS}
theorem R2.grown (h : R2 w0 P1 w g s1 r s2) {w' : World} (k : w.grownBy w' none) : R2 w0 P1 w' g s1 r s2 := by
  obtain ⟨F, h1, h2, h3, h4, h5⟩ := h
  exact ⟨F, h1.grown k, h2.same (k.block r h2.lt (by simp)), h3, h4, h5.trans (grown_keeps k (fun _ => False)) (fun _ a => a.elim)⟩
theorem R2.drew (h : R2 w0 P1 w g s1 r s2) : R2 w0 P1 w.drew g s1 r s2 := h.grown (grown_drew w)
theorem R2.block (h : R2 w0 P1 w g s1 r s2) (b : Nat) (hb : b < w0.heap.size) (h1 : ¬ P1 b) (h2 : b ≠ r) : w.heap[b]? = w0.heap[b]? := by
  obtain ⟨F, _, _, _, _, h6⟩ := h
  exact h6.block b hb (fun c => c.elim h1 h2)
theorem R2.does (h : R2 w0 P1 w g s1 r s2) (k id n : Int) (s : ByteArray) (hn : n ≤ 9223372036854775807) (hs : ∀ i, i < 16 → (s1 i).out.size + s.size ≤ limit) :
    Calls Try.prog 17 #[.pointer (some ⟨g, 0, none⟩), opVal k id n s] w fun e w' => e = .returned (.int .i64 (stp s1 k id n s).1) ∧ R2 w0 P1 w' g (stp s1 k id n s).2 r s2 := by
  obtain ⟨F, h1, h2, h3, h4, h5⟩ := h
  refine (does_any h1 k id n s hn hs).mono fun e w' a => ⟨a.1, ?_⟩
  obtain ⟨F', k1, k2, k3⟩ := a.2
  refine ⟨F', k1, h2.same (k2.block r h2.lt h3), fun c => ?_, fun x c => ?_, ?_⟩
  · rcases k3 r c with d | d
    · exact h3 d
    · have := h2.lt; omega
  · rcases k3 x c with d | d
    · exact h4 x d
    · exact .inr (Nat.le_trans h5.size d)
  · refine h5.trans k2 (fun x c => ?_)
    rcases h4 x c with d | d
    · exact .inl (.inl d)
    · exact .inr d
theorem R2.ref (h : R2 w0 P1 w g s1 r s2) (k id n : Int) (s : ByteArray) (hl : ∀ i, i < 16 → -1 ≤ (s2 i).left ∧ (s2 i).left ≤ 9223372036854775807) (hs : ∀ i, i < 16 → (s2 i).out.size + s.size ≤ limit) :
    Calls Try.prog 18 #[.pointer (some ⟨r, 0, none⟩), opVal k id n s] w fun e w' => e = .returned (.int .i64 (stp s2 k id n s).1) ∧ R2 w0 P1 w' g s1 r (stp s2 k id n s).2 := by
  obtain ⟨F, h1, h2, h3, h4, h5⟩ := h
  refine (doesRef_any h2 k id n s hl hs).mono fun e w' a => ⟨a.1, ?_⟩
  obtain ⟨k1, k2⟩ := a.2
  exact ⟨F, h1.keeps (Keeps.grown k2 (F := fun x => x = r) (fun x e => by injection e with e; exact e.symm)) (fun x c e => h3 (e ▸ c)), k1, h3, h4, h5.trans (Keeps.grown k2 (F := fun x => x = r) (fun x e => by injection e with e; exact e.symm)) (fun x e => .inl (.inr e))⟩
theorem R2.left (h : R2 w0 P1 w g s1 r s2) : ∀ i, i < 16 → -1 ≤ (s1 i).left ∧ (s1 i).left ≤ 9223372036854775807 := by
  obtain ⟨F, h1, _⟩ := h
  exact h1.left
theorem R2.out (h : R2 w0 P1 w g s1 r s2) (i : Nat) (hi : i < 16) : Calls Try.prog 14 #[.pointer (some ⟨g, 0, none⟩), .int .i64 i] w fun e w' => e = .returned (.string (s1 i).out) ∧ w = w' := by
  obtain ⟨F, h1, _⟩ := h
  exact Out_in h1 i hi
theorem R2.is_ (h : R2 w0 P1 w g s1 r s2) (i : Nat) (hi : i < 16) : Calls Try.prog 15 #[.pointer (some ⟨g, 0, none⟩), .int .i64 i] w fun e w' => e = .returned (.bool (s1 i).op) ∧ w = w' := by
  obtain ⟨F, h1, _⟩ := h
  obtain ⟨vs, h4, _⟩ := h1.ex
  exact Is_in h4 i hi
theorem R2.whole (h : R2 w0 P1 w g s1 r s2) (i : Nat) (hi : i < 16) : Calls Try.prog 12 #[.pointer (some ⟨g, 0, none⟩), .int .i64 i] w fun e w' => e = .returned (.bool ((s1 i).op && !(s1 i).br)) ∧ w = w' := by
  obtain ⟨F, h1, _⟩ := h
  obtain ⟨vs, h4, _⟩ := h1.ex
  exact Whole_in h4 i hi
theorem R2.all (h : R2 w0 P1 w g s1 r s2) : Calls Try.prog 20 #[.pointer (some ⟨g, 0, none⟩)] w fun e w' => ∃ v, e = .returned v ∧ w'.ownsRow w.heap.size 3 1 v (opens s1 16).length (opens s1 16) ∧ w.grownBy w' none := by
  obtain ⟨F, h1, _⟩ := h
  exact All_at h1
theorem R2.four (h : R2 w0 P1 w g s1 r s2) : Four w r 39 s2 (strs s2) := by
  obtain ⟨F, _, h2, _⟩ := h
  exact h2
end
/-- A step writes no more than it is given. -/
theorem stp_size (st : Nat → PS) (k id n : Int) (s : ByteArray) (b : Nat) (h : ∀ i, i < 16 → (st i).out.size ≤ b) : ∀ i, i < 16 → ((stp st k id n s).2 i).out.size ≤ b + s.size := by
  intro i hi
  by_cases hid : id < 0 ∨ 16 ≤ id
  · have e : (stp st k id n s).2 = st := by
      unfold stp
      rw [at_out _ _ _ hid, at_out _ _ _ hid, at_out _ _ _ hid, at_out _ _ _ hid]
      by_cases h0 : k % 4 = 0
      · simp [h0]
      · by_cases h1 : k % 4 = 1
        · simp [h1]
        · by_cases h2 : k % 4 = 2 <;> simp [h0, h1, h2]
    rw [e]
    have := h i hi
    omega
  · obtain ⟨j, rfl⟩ : ∃ j : Nat, id = j := ⟨id.toNat, by omega⟩
    rw [stp_in _ _ _ _ _ (by omega)]
    have h1 := sps_le k n s (st j)
    have h2 := h j (by omega)
    show (upd st j (sps k n s (st j)).2 i).out.size ≤ b + s.size
    by_cases e : i = j
    · subst e; rw [upd_same]; omega
    · rw [upd_other _ _ _ _ e]
      have := h i hi
      omega
theorem grown_drewN (w : World) (n : Nat) : w.grownBy (w.drewN n) none := ⟨rfl, rfl, rfl, Nat.le_refl _, fun _ _ _ => rfl⟩
end Go.Proofs.Ytdpjbkodenhelaa
