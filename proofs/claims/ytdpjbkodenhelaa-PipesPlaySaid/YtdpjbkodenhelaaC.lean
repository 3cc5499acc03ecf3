/- Package pipes: sixteen pipes that own what came out of them; Out, Write. -/
import Derived.Test.YtdpjbkodenhelaaB
import Derived.Laws.BytesString
namespace Go.Proofs.Ytdpjbkodenhelaa
open Go.RowKit Go.Lib
attribute [local go_sem ↓] Go.wp_at_zero Go.wp_at_succ

theorem u51 : Try.prog.underlying 51 = some (.slice 5) := by kernel_rfl
theorem u5 : Try.prog.underlying 5 = some (.int .u8) := by kernel_rfl
theorem u9 : Try.prog.underlying 9 = some .string := by kernel_rfl
theorem info5 : (Try.prog.info? 5).map (fun i => (i.zero, i.size, i.bytes)) = some (some (.int .u8 0), 1, 1) := by kernel_rfl

theorem foldl_push (l : List UInt8) : ∀ s : ByteArray, (l.map fun b => (b.toNat : Int)).foldl (fun r n => r.push (UInt8.ofNat n.toNat)) s = ⟨s.data ++ l.toArray⟩ := by
  induction l with
  | nil => intro s; simp
  | cons a l ih =>
    intro s
    simp only [List.map_cons, List.foldl_cons]
    rw [ih]
    simp [ByteArray.push]
theorem conv_own {w : World} {base : Nat} {v : Value} {s : ByteArray} (h : w.ownsRow base 5 1 v s.size (strCells s)) : (convert 51 9 v).run Try.prog w = .ok (.string s) w := by
  rcases h.2 with ⟨rfl, hn⟩ | ⟨g, cap, cur, rfl, hb, hg, _, _, _, htake⟩
  · rw [run_convert_bytes_string w 51 9 5 none 0 0 u51 u5 u9]
    have : s = ByteArray.empty := by
      obtain ⟨d⟩ := s
      have : d = #[] := Array.size_eq_zero_iff.1 hn
      rw [this]; rfl
    rw [this]
    simp [Conv.bytesToString, Sem.run_pure]
    first | rfl | skip
  · rw [run_convert_bytes_string w 51 9 5 _ _ _ u51 u5 u9]
    have hc := h.cells (g := g) rfl
    have hl := run_loadCells_list (P := Try.prog) w ⟨g, 0, none⟩ (strCells s) hc
    rw [strCells_length] at hl
    rw [run_bytesToString w ⟨g, 0, none⟩ s.size cap (s.data.toList.map fun b => (b.toNat : Int)) (by rw [hl]; simp [strCells])]
    rw [foldl_push]
    congr 2
    simp

/-- Where the value that an append leaves lies: where the old one lay, or in a new block. -/
theorem append_block {P : Program} {w : World} (base : Nat) (t u ty e : TypeId) (i : TypeInfo) (ht : P.underlying t = some (.slice e)) (hu : P.underlying u = some .string) (hi : P.info? e = some i) (hz : i.zero = some (.int .u8 0))
    (hsize : i.size = 1) (hby : i.bytes = 1)
    (v : Value) (n : Nat) (xs : List Value) (hown : w.ownsRow base e 1 v n xs) (s : ByteArray)
    (h63 : n + s.size ≤ maxLen) (hbytes : n + s.size ≤ 140737488355328) (hbase : base ≤ w.heap.size) :
    ∃ v' w', (Builtin.append_ #[t, u] ty #[v, .string s]).run P w = .ok v' w' ∧ w'.ownsRow base e 1 v' (n + s.size) (xs ++ strCells s) ∧ w.grownBy w' v.ownBlock ∧ ∀ k, v'.ownBlock = some k → v.ownBlock = some k ∨ w.heap.size ≤ k := by
  obtain ⟨v', w', hr, h2, h3, _⟩ := run_append_own_string (P := P) w base t u ty e i ht hu hi hz hsize hby v n xs hown s h63 hbytes hbase
  refine ⟨v', w', hr, h2, h3, fun k hk => ?_⟩
  have h63' : ((n + s.size : Nat) : Int) ≤ 9223372036854775807 := by simp only [maxLen] at h63; omega
  rcases hown.2 with ⟨rfl, rfl⟩ | ⟨b, cap, cur, rfl, hb, hg, hnc, hcm, hcs, htake⟩
  · have hx : xs = [] := List.eq_nil_of_length_eq_zero (by simpa using hown.1)
    subst hx
    obtain ⟨v2, w2, hr2, k2, _, _⟩ := run_append_own_string (P := P) w w.heap.size t u ty e i ht hu hi hz hsize hby (.slice none 0 0) 0 [] (World.ownsRow_nil w _ e 1) s h63 hbytes (Nat.le_refl _)
    rw [hr] at hr2
    injection hr2 with e1 e2
    subst e1
    exact .inr (k2.lt k hk).1
  · by_cases hroom : n + s.size ≤ cap
    · have hr2 := run_append_room_string (P := P) w t u ty e i ht hu hi hsize b n cap cur hg s hroom (by omega)
      rw [hr] at hr2
      injection hr2 with e1 e2
      subst e1
      exact .inl hk
    · have hr2 := run_append_grow_string (P := P) w t u ty e i (.int .u8 0) ht hu hi hz ⟨b, 0, none⟩ n cap xs (by rw [hsize]; exact hown.1) (hown.cells (g := b) rfl) s (by omega) h63' (by rw [hby]; exact growslice_fits (by omega) (by omega))
      rw [hr] at hr2
      injection hr2 with e1 e2
      subst e1
      simp only [Value.ownBlock, Option.some.injEq] at hk
      exact .inr (by omega)

theorem step_append_own_string {P : Program} {ops : Array Oper} {o : Oper} {a : Act} {w : World} {K : Act → World → Prop} {Q : Exit → Act → World → Prop} {E : Prop}
    (hg : o.guard = none) (sl x : Operand) (t u : TypeId) (hop : o.op = Op.call { callee := Callee.builtin Builtin.append, args := #[sl, x], argTypes := #[t, u] })
    (base : Nat) (e : TypeId) (i : TypeInfo) (ht : P.underlying t = some (.slice e)) (hu : P.underlying u = some .string) (hi : P.info? e = some i) (hz : i.zero = some (.int .u8 0))
    (hsize : i.size = 1) (hby : i.bytes = 1)
    (v : Value) (n : Nat) (xs : List Value) (hs : a.eval sl = v) (hown : w.ownsRow base e 1 v n xs) (s : ByteArray) (hx : a.eval x = .string s)
    (h63 : n + s.size ≤ maxLen) (hbytes : n + s.size ≤ 140737488355328) (hbase : base ≤ w.heap.size)
    (hK : ∀ v' w', w'.ownsRow base e 1 v' (n + s.size) (xs ++ strCells s) → w.grownBy w' v.ownBlock → (∀ k, v'.ownBlock = some k → v.ownBlock = some k ∨ w.heap.size ≤ k) → K (a.put o.dst v') w') :
    if Region.wanted o (yielded ops a.tmps) = true then Oper.wp P o a w K Q else E := by
  have hw : Region.wanted o (yielded ops a.tmps) = true := by simp [Region.wanted, hg]
  rw [if_pos hw]
  obtain ⟨v', w', hr, h2, h3, h4⟩ := append_block (P := P) (w := w) base t u o.type e i ht hu hi hz hsize hby v n xs hown s h63 hbytes hbase
  unfold Oper.wp
  simp [execOp, hop, resolve, invoke, builtin, hs, hx, hr, Result.andThen]
  exact hK v' w' h2 h3 h4

theorem strCells_append (a b : ByteArray) : strCells (a ++ b) = strCells a ++ strCells b := by simp [strCells]
theorem size_append (a b : ByteArray) : (a ++ b).size = a.size + b.size := by simp

/-- What a change of the blocks F alone leaves. -/
structure Keeps (w w' : World) (F : Nat → Prop) : Prop where
  os : w'.os = w.os
  tape : w'.tape = w.tape
  output : w'.output = w.output
  size : w.heap.size ≤ w'.heap.size
  block : ∀ k, k < w.heap.size → ¬ F k → w'.heap[k]? = w.heap[k]?

theorem Keeps.refl (w : World) (F : Nat → Prop) : Keeps w w F := ⟨rfl, rfl, rfl, Nat.le_refl _, fun _ _ _ => rfl⟩
theorem Keeps.below {w w' : World} {F : Nat → Prop} {B : Nat} (h : Keeps w w' F) (hF : ∀ k, F k → B ≤ k) (hB : B ≤ w.heap.size) : Below B w w' :=
  ⟨h.os, h.tape, h.output, h.size, fun k hk => h.block k (by omega) (fun hf => by have := hF k hf; omega)⟩
theorem Keeps.trans {a b c : World} {F G : Nat → Prop} (h : Keeps a b F) (k : Keeps b c G) (hG : ∀ x, G x → F x ∨ a.heap.size ≤ x) : Keeps a c F :=
  ⟨k.os.trans h.os, k.tape.trans h.tape, k.output.trans h.output, Nat.le_trans h.size k.size, fun x hx hf => (k.block x (Nat.lt_of_lt_of_le hx h.size) (fun hg => by
    rcases hG x hg with h1 | h1
    · exact hf h1
    · omega)).trans (h.block x hx hf)⟩
theorem Keeps.grown {w w' : World} {row : Option Nat} {F : Nat → Prop} (h : w.grownBy w' row) (hF : ∀ k, row = some k → F k) : Keeps w w' F :=
  ⟨h.os, h.tape, h.output, h.size, fun k hk hf => h.block k hk (fun e => hf (hF k e.symm))⟩

def limit : Nat := 1099511627776
/-- Sixteen pipes, and what came out of each in a row of its own; F: the blocks that are theirs. -/
structure PipesAt (w : World) (g : Nat) (st : Nat → PS) (F : Nat → Prop) : Prop where
  ex : ∃ vs, Four w g 56 st vs ∧ ∀ i, i < 16 → w.ownsRow 0 5 1 (vs i) (st i).out.size (strCells (st i).out) ∧ ∀ k, (vs i).ownBlock = some k → F k ∧ k ≠ g ∧ ∀ j, j < 16 → j ≠ i → (vs j).ownBlock ≠ some k
  self : F g
  lt : ∀ k, F k → k < w.heap.size
  left : ∀ i, i < 16 → -1 ≤ (st i).left ∧ (st i).left ≤ 9223372036854775807

theorem PipesAt.keeps {w w' : World} {g : Nat} {st : Nat → PS} {F G : Nat → Prop} (h : PipesAt w g st F) (k : Keeps w w' G) (hd : ∀ x, F x → ¬ G x) : PipesAt w' g st F := by
  obtain ⟨vs, h4, ho⟩ := h.ex
  have hb : ∀ x, F x → w'.heap[x]? = w.heap[x]? := fun x hx => k.block x (h.lt x hx) (hd x hx)
  refine ⟨⟨vs, h4.same (hb g h.self), fun i hi => ⟨?_, (ho i hi).2⟩⟩, h.self, fun x hx => Nat.lt_of_lt_of_le (h.lt x hx) k.size, h.left⟩
  obtain ⟨h1, h2⟩ := ho i hi
  refine ⟨h1.1, ?_⟩
  rcases h1.2 with hn | ⟨b, cap, cur, e, hbg, hgg, rest⟩
  · exact .inl hn
  · exact .inr ⟨b, cap, cur, e, hbg, (hb b (h2 b (by rw [e]; rfl)).1).trans hgg, rest⟩

section
variable {w : World} {g : Nat} {st : Nat → PS} {F : Nat → Prop}
theorem Out_in (h : PipesAt w g st F) (i : Nat) (hi : i < 16) : Calls Try.prog 14 #[.pointer (some ⟨g, 0, none⟩), .int .i64 i] w fun e w' => e = .returned (.string (st i).out) ∧ w = w' := by
  obtain ⟨vs, hF, ho⟩ := h.ex
  have x3 := hF.c3 hi
  have hc := conv_own (ho i hi).1
  go_enter Try.func14, Try.ntmps14
  go_wp2_with fail
  refine (get_in g i hi _).mono ?_
  rintro e w1 ⟨rfl, rfl⟩
  go_wp2
  all_goals (go_ret; exact ⟨rfl, rfl⟩)
theorem Out_out (g : Nat) (i : Int) (hi : i < 0 ∨ 16 ≤ i) (w : World) : Calls Try.prog 14 #[.pointer (some ⟨g, 0, none⟩), .int .i64 i] w fun e w' => e = .returned (.string ⟨#[]⟩) ∧ w = w' := by
  go_enter Try.func14, Try.ntmps14
  go_wp2_with fail
  refine (get_out g i hi _).mono ?_
  rintro e w1 ⟨rfl, rfl⟩
  go_wp2
  all_goals (go_ret; exact ⟨rfl, rfl⟩)
theorem Out_nil (i : Int) (w : World) : Calls Try.prog 14 #[.pointer none, .int .i64 i] w fun e w' => e = .returned (.string ⟨#[]⟩) ∧ w = w' := by
  go_enter Try.func14, Try.ntmps14
  go_wp2_with fail
  refine (get_nil i _).mono ?_
  rintro e w1 ⟨rfl, rfl⟩
  go_wp2
  all_goals (go_ret; exact ⟨rfl, rfl⟩)
end
end Go.Proofs.Ytdpjbkodenhelaa
