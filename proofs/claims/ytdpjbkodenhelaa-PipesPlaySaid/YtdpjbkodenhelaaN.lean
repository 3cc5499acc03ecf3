/- Package pipes: two pipes beside one another; a step of one pipe alone. -/
import Derived.Test.YtdpjbkodenhelaaM
namespace Go.Proofs.Ytdpjbkodenhelaa
open Go.RowKit Go.Lib

/-- A step, of one connection. -/
def sps (k n : Int) (s : ByteArray) (p : PS) : Int × PS := if k % 4 = 0 then opn p else if k % 4 = 1 then wrt s p else if k % 4 = 2 then brk n p else cls p
theorem stp_in (st : Nat → PS) (k n : Int) (s : ByteArray) (i : Nat) (hi : i < 16) : stp st k (i : Int) n s = ((sps k n s (st i)).1, upd st i (sps k n s (st i)).2) := by
  unfold stp sps
  by_cases h0 : k % 4 = 0
  · simp only [h0, if_pos]; exact at_in _ _ _ hi
  · by_cases h1 : k % 4 = 1
    · simp only [h1, if_pos]; simp; exact at_in _ _ _ hi
    · by_cases h2 : k % 4 = 2
      · simp only [h2]; simp; exact at_in _ _ _ hi
      · simp only [h0, h1, h2, if_false]; exact at_in _ _ _ hi
theorem sps_le (k n : Int) (s : ByteArray) (p : PS) : (sps k n s p).2.out.size ≤ p.out.size + s.size := by
  have e0 : ByteArray.empty.size = 0 := rfl
  unfold sps
  by_cases h0 : k % 4 = 0
  · rw [if_pos h0]
    unfold opn
    by_cases h : p.op = true
    · rw [if_pos h]; simp only []; omega
    · rw [if_neg h]; simp only []; omega
  rw [if_neg h0]
  by_cases h1 : k % 4 = 1
  · rw [if_pos h1]
    unfold wrt wri
    by_cases h : (p.op && !p.br) = true
    · rw [if_pos h]
      by_cases h2 : p.left = -1
      · rw [if_pos h2]; simp
      · rw [if_neg h2]
        by_cases h3 : (s.size : Int) ≤ p.left
        · rw [if_pos h3]; simp
        · rw [if_neg h3]
          simp
          omega
    · rw [if_neg h]; simp only []; omega
  rw [if_neg h1]
  by_cases h2 : k % 4 = 2
  · rw [if_pos h2]
    unfold brk
    by_cases h : (p.op && !p.br) = true
    · rw [if_pos h]; simp only []; omega
    · rw [if_neg h]; simp only []; omega
  · rw [if_neg h2]
    unfold cls
    by_cases h : p.op = true
    · rw [if_pos h]; simp only []; omega
    · rw [if_neg h]; simp only []; omega
theorem upd_size (st : Nat → PS) (i : Nat) (x : PS) (b : Nat) (h : ∀ j, j < 16 → (st j).out.size ≤ b) (hx : x.out.size ≤ b) : ∀ j, j < 16 → (upd st i x j).out.size ≤ b := by
  intro j hj
  by_cases e : j = i
  · subst e; rw [upd_same]; exact hx
  · rw [upd_other _ _ _ _ e]; exact h j hj

/-- Two pipes, of which nobody else knows: they have gone on from the world w0; what is not theirs is as it was there. -/
def T2 (w0 : World) (P1 P2 : Nat → Prop) (w : World) (g1 : Nat) (s1 : Nat → PS) (g2 : Nat) (s2 : Nat → PS) : Prop :=
  ∃ F1 F2, PipesAt w g1 s1 F1 ∧ PipesAt w g2 s2 F2 ∧ (∀ x, F1 x → ¬ F2 x) ∧ (∀ x, F1 x → P1 x ∨ w0.heap.size ≤ x) ∧ (∀ x, F2 x → P2 x ∨ w0.heap.size ≤ x) ∧ Keeps w0 w (fun x => P1 x ∨ P2 x)
section
variable {w0 w : World} {P1 P2 : Nat → Prop} {g1 g2 : Nat} {s1 s2 : Nat → PS}
theorem T2.symm (h : T2 w0 P1 P2 w g1 s1 g2 s2) : T2 w0 P2 P1 w g2 s2 g1 s1 := by
  obtain ⟨F1, F2, h1, h2, h3, h4, h5, h6⟩ := h
  exact ⟨F2, F1, h2, h1, fun x k1 k2 => h3 x k2 k1, h5, h4, ⟨h6.os, h6.tape, h6.output, h6.size, fun k hk hn => h6.block k hk (fun hp => hn hp.symm)⟩⟩
theorem T2.call (h : T2 w0 P1 P2 w g1 s1 g2 s2) {f : Nat} {args : Array Value} {r : Ending} {s1' : Nat → PS} (c : ∀ F, PipesAt w g1 s1 F → Calls Try.prog f args w fun e w' => e = r ∧ Stepped w w' g1 s1' F) :
    Calls Try.prog f args w fun e w' => e = r ∧ T2 w0 P1 P2 w' g1 s1' g2 s2 := by
  obtain ⟨F1, F2, h1, h2, h3, h4, h5, h6⟩ := h
  refine (c F1 h1).mono fun e w' a => ⟨a.1, ?_⟩
  obtain ⟨F1', k1, k2, k3⟩ := a.2
  have hd : ∀ x, F2 x → ¬ F1 x := fun x a b => h3 x b a
  refine ⟨F1', F2, k1, h2.keeps k2 hd, fun x a b => ?_, fun x a => ?_, h5, ?_⟩
  · rcases k3 x a with c | c
    · exact h3 x c b
    · have := h2.lt x b; omega
  · rcases k3 x a with c | c
    · exact h4 x c
    · exact .inr (Nat.le_trans h6.size c)
  · refine h6.trans k2 (fun x a => ?_)
    rcases h4 x a with c | c
    · exact .inl (.inl c)
    · exact .inr c
theorem T2.look (h : T2 w0 P1 P2 w g1 s1 g2 s2) {f : Nat} {args : Array Value} {r : Ending} (c : ∀ F, PipesAt w g1 s1 F → Calls Try.prog f args w fun e w' => e = r ∧ w = w') :
    Calls Try.prog f args w fun e w' => e = r ∧ w = w' := by
  obtain ⟨F1, F2, h1, h2, h3, h4, h5, h6⟩ := h
  exact c F1 h1
theorem T2.grown (h : T2 w0 P1 P2 w g1 s1 g2 s2) {w' : World} (k : w.grownBy w' none) : T2 w0 P1 P2 w' g1 s1 g2 s2 := by
  obtain ⟨F1, F2, h1, h2, h3, h4, h5, h6⟩ := h
  exact ⟨F1, F2, h1.grown k, h2.grown k, h3, h4, h5, h6.trans (grown_keeps k (fun _ => False)) (fun _ a => a.elim)⟩
theorem grown_drew (w : World) : w.grownBy w.drew none := ⟨rfl, rfl, rfl, Nat.le_refl _, fun _ _ _ => rfl⟩
theorem T2.drew (h : T2 w0 P1 P2 w g1 s1 g2 s2) : T2 w0 P1 P2 w.drew g1 s1 g2 s2 := h.grown (grown_drew w)
/-- The same, told from here on. -/
theorem T2.base (h : T2 w0 P1 P2 w g1 s1 g2 s2) : ∃ Q1 Q2, T2 w Q1 Q2 w g1 s1 g2 s2 ∧ (∀ x, Q1 x → (P1 x ∨ w0.heap.size ≤ x) ∧ x < w.heap.size) ∧ (∀ x, Q2 x → (P2 x ∨ w0.heap.size ≤ x) ∧ x < w.heap.size) ∧ Keeps w0 w (fun x => P1 x ∨ P2 x) := by
  obtain ⟨F1, F2, h1, h2, h3, h4, h5, h6⟩ := h
  exact ⟨F1, F2, ⟨F1, F2, h1, h2, h3, fun x a => .inl a, fun x a => .inl a, Keeps.refl w _⟩, fun x a => ⟨h4 x a, h1.lt x a⟩, fun x a => ⟨h5 x a, h2.lt x a⟩, h6⟩
theorem T2.base_new (h : T2 w0 P1 P2 w g1 s1 g2 s2) {w' : World} (k : w.grownBy w' none) : ∃ Q1 Q2, T2 w' Q1 Q2 w' g1 s1 g2 s2 ∧ (∀ x, Q1 x → (P1 x ∨ w0.heap.size ≤ x) ∧ x < w.heap.size) ∧ (∀ x, Q2 x → (P2 x ∨ w0.heap.size ≤ x) ∧ x < w.heap.size) ∧ Keeps w0 w' (fun x => P1 x ∨ P2 x) := by
  obtain ⟨F1, F2, h1, h2, h3, h4, h5, h6⟩ := h
  exact ⟨F1, F2, ⟨F1, F2, h1.grown k, h2.grown k, h3, fun x a => .inl a, fun x a => .inl a, Keeps.refl w' _⟩, fun x a => ⟨h4 x a, h1.lt x a⟩, fun x a => ⟨h5 x a, h2.lt x a⟩, h6.trans (grown_keeps k (fun _ => False)) (fun _ a => a.elim)⟩
/-- Back again. -/
theorem T2.join {w1 : World} {Q1 Q2 : Nat → Prop} {t1 t2 : Nat → PS} (h : T2 w1 Q1 Q2 w g1 t1 g2 t2) (a : ∀ x, Q1 x → P1 x ∨ w0.heap.size ≤ x) (b : ∀ x, Q2 x → P2 x ∨ w0.heap.size ≤ x) (k : Keeps w0 w1 (fun x => P1 x ∨ P2 x)) : T2 w0 P1 P2 w g1 t1 g2 t2 := by
  obtain ⟨F1, F2, h1, h2, h3, h4, h5, h6⟩ := h
  refine ⟨F1, F2, h1, h2, h3, fun x c => ?_, fun x c => ?_, k.trans h6 (fun x c => ?_)⟩
  · rcases h4 x c with d | d
    · exact a x d
    · exact .inr (Nat.le_trans k.size d)
  · rcases h5 x c with d | d
    · exact b x d
    · exact .inr (Nat.le_trans k.size d)
  · rcases c with c | c
    · rcases a x c with d | d
      · exact .inl (.inl d)
      · exact .inr d
    · rcases b x c with d | d
      · exact .inl (.inr d)
      · exact .inr d
theorem T2.block (h : T2 w0 P1 P2 w g1 s1 g2 s2) (b : Nat) (hb : b < w0.heap.size) (h1 : ¬ P1 b) (h2 : ¬ P2 b) : w.heap[b]? = w0.heap[b]? := by
  obtain ⟨F1, F2, _, _, _, _, _, h6⟩ := h
  exact h6.block b hb (fun c => c.elim h1 h2)
theorem T2.does (h : T2 w0 P1 P2 w g1 s1 g2 s2) (k n : Int) (i : Nat) (hi : i < 16) (s : ByteArray) (hn : n ≤ 9223372036854775807) (hs : ∀ i, i < 16 → (s1 i).out.size + s.size ≤ limit) :
    Calls Try.prog 17 #[.pointer (some ⟨g1, 0, none⟩), opVal k (i : Int) n s] w fun e w' => e = .returned (.int .i64 (sps k n s (s1 i)).1) ∧ T2 w0 P1 P2 w' g1 (upd s1 i (sps k n s (s1 i)).2) g2 s2 := by
  have c := h.call (fun F hF => does_any hF k i n s hn hs)
  rw [stp_in _ _ _ _ _ hi] at c
  exact c
theorem T2.close (h : T2 w0 P1 P2 w g1 s1 g2 s2) (i : Nat) (hi : i < 16) :
    Calls Try.prog 21 #[.pointer (some ⟨g1, 0, none⟩), .int .i64 i] w fun e w' => e = .returned (.int .i64 (cls (s1 i)).1) ∧ T2 w0 P1 P2 w' g1 (upd s1 i (cls (s1 i)).2) g2 s2 := by
  have c := h.call (fun F hF => Close_at hF i)
  rw [at_in _ _ _ hi] at c
  exact c
theorem T2.open_ (h : T2 w0 P1 P2 w g1 s1 g2 s2) (i : Nat) (hi : i < 16) :
    Calls Try.prog 10 #[.pointer (some ⟨g1, 0, none⟩), .int .i64 i] w fun e w' => e = .returned (.int .i64 (opn (s1 i)).1) ∧ T2 w0 P1 P2 w' g1 (upd s1 i (opn (s1 i)).2) g2 s2 := by
  have c := h.call (fun F hF => Open_at hF i)
  rw [at_in _ _ _ hi] at c
  exact c
theorem T2.out (h : T2 w0 P1 P2 w g1 s1 g2 s2) (i : Nat) (hi : i < 16) : Calls Try.prog 14 #[.pointer (some ⟨g1, 0, none⟩), .int .i64 i] w fun e w' => e = .returned (.string (s1 i).out) ∧ w = w' := h.look (fun _ hF => Out_in hF i hi)
theorem T2.is_ (h : T2 w0 P1 P2 w g1 s1 g2 s2) (i : Nat) (hi : i < 16) : Calls Try.prog 15 #[.pointer (some ⟨g1, 0, none⟩), .int .i64 i] w fun e w' => e = .returned (.bool (s1 i).op) ∧ w = w' := h.look (fun _ hF => by
  obtain ⟨vs, h4, _⟩ := hF.ex
  exact Is_in h4 i hi)
theorem T2.whole (h : T2 w0 P1 P2 w g1 s1 g2 s2) (i : Nat) (hi : i < 16) : Calls Try.prog 12 #[.pointer (some ⟨g1, 0, none⟩), .int .i64 i] w fun e w' => e = .returned (.bool ((s1 i).op && !(s1 i).br)) ∧ w = w' := h.look (fun _ hF => by
  obtain ⟨vs, h4, _⟩ := hF.ex
  exact Whole_in h4 i hi)
end

/-- A row of steps, in a block that nobody writes. -/
def RowAt (w : World) (A : Option Addr) (n : Nat) (f : Nat → OpD) (lo : Nat) : Prop := ∀ k, k < n → ∃ b, A = some ⟨b, 0, none⟩ ∧ lo ≤ b ∧ b < w.heap.size ∧
  w.cell? ⟨b, k * 4, none⟩ = some (.int .i64 (f k).k) ∧ w.cell? ⟨b, k * 4 + 1, none⟩ = some (.int .i64 (f k).id) ∧ w.cell? ⟨b, k * 4 + 2, none⟩ = some (.int .i64 (f k).n) ∧ w.cell? ⟨b, k * 4 + 3, none⟩ = some (.string (f k).s)
theorem own_rows {w : World} {base : Nat} {v : Value} {n : Nat} {f : Nat → OpD} (h : w.ownsRow base 43 4 v n (flat f n)) : ∃ A c, v = .slice A n c ∧ RowAt w A n f base := by
  rcases h.2 with ⟨rfl, rfl⟩ | ⟨b, cap, cur, rfl, hb, hg, _⟩
  · exact ⟨_, _, rfl, fun k hk => absurd hk (by omega)⟩
  · refine ⟨_, _, rfl, fun k hk => ⟨b, rfl, hb, (h.lt b rfl).2, ?_⟩⟩
    have hc := h.cells (g := b) rfl
    obtain ⟨a0, a1, a2, a3⟩ := flat_get f n k hk
    have k0 := hc _ _ a0
    have k1 := hc _ _ a1
    have k2 := hc _ _ a2
    have k3 := hc _ _ a3
    simp only [Go.WideShapes.add_plain, Nat.zero_add] at k0 k1 k2 k3
    exact ⟨k0, k1, k2, k3⟩
theorem RowAt.keeps {w w' : World} {A : Option Addr} {n : Nat} {f : Nat → OpD} {lo : Nat} (h : RowAt w A n f lo) (hb : ∀ b, lo ≤ b → b < w.heap.size → w'.heap[b]? = w.heap[b]?) (hs : w.heap.size ≤ w'.heap.size) : RowAt w' A n f lo := by
  intro k hk
  obtain ⟨b, e, h1, h2, c0, c1, c2, c3⟩ := h k hk
  have hh := hb b h1 h2
  exact ⟨b, e, h1, by omega, (World.cell?_of_block (a := ⟨b, k * 4, none⟩) hh).trans c0, (World.cell?_of_block (a := ⟨b, k * 4 + 1, none⟩) hh).trans c1, (World.cell?_of_block (a := ⟨b, k * 4 + 2, none⟩) hh).trans c2, (World.cell?_of_block (a := ⟨b, k * 4 + 3, none⟩) hh).trans c3⟩
theorem OpsAt.grown {w w' : World} {A : Option Addr} {n : Nat} {f : Nat → OpD} (h : OpsAt w A n f) (hg : w.grownBy w' none) : OpsAt w' A n f := by
  intro k hk
  obtain ⟨b, o, e, h1, h2, h3, c0, c1, c2, c3⟩ := h k hk
  exact ⟨b, o, e, Nat.lt_of_lt_of_le h1 hg.size, h2, h3, hg.cell c0 (by simp), hg.cell c1 (by simp), hg.cell c2 (by simp), hg.cell c3 (by simp)⟩
end Go.Proofs.Ytdpjbkodenhelaa
