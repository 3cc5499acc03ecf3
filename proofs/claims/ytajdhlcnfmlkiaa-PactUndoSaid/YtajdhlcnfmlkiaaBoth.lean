/- PactBoth: what comes of an act on both sides, and whether they fit, is what the reference says: for every two sides and every act. No condition. -/
import Derived.Test.YtajdhlcnfmlkiaaR4
import Derived.Test.YtajdhlcnfmlkiaaLaw
namespace Go.Proofs.Ytajdhlcnfmlkiaa
open Go.RowKit Go.Joins Go.ChangeShapes Go.WideShapes Go.ChangeAt
attribute [local go_sem ↓] Go.wp_at_zero Go.wp_at_succ

/-- These blocks are known, and all that was there before is as it was. -/
def KB (w0 : World) (L : List (Nat × TypeId × Array Value)) (W : World) : Prop := (∀ x ∈ L, Blk W x.1 x.2.1 x.2.2) ∧ Below w0.heap.size w0 W
theorem kb_below {w0 W w2 : World} {L : List (Nat × TypeId × Array Value)} (hb : Below W.heap.size W w2) (h : KB w0 L W) : KB w0 L w2 :=
  ⟨fun x hx => (h.1 x hx).below hb (h.1 x hx).lt, h.2.trans (hb.mono h.2.size)⟩
theorem kb_dr {w0 W : World} {L : List (Nat × TypeId × Array Value)} (h : KB w0 L W) : KB w0 L W.drew := ⟨h.1, h.2.drew⟩
theorem kb_nil {w0 W : World} (h : Below w0.heap.size w0 W) : KB w0 [] W := ⟨(fun x hx => by cases hx), h⟩
theorem kb_cons {w0 W : World} {L : List (Nat × TypeId × Array Value)} {g : Nat} {t : TypeId} {cs : Array Value} (h : Blk W g t cs) (k : KB w0 L W) : KB w0 ((g, t, cs) :: L) W :=
  ⟨(fun x hx => by
    rcases List.mem_cons.1 hx with rfl | hx
    · exact h
    · exact k.1 x hx), k.2⟩
theorem of_at (n : Int) (a b t : Bool) (h : Hid (rightB n a b = t)) (w : World) :
    Calls Try.prog 10 #[.int .i64 n, .bool a, .bool b] w fun e w' => e = .returned (.tuple #[R4 (seesB n) (seenB n) a b, .bool t]) ∧ Below w.heap.size w w' := by
  have h' : rightB n a b = t := h
  rw [← h']; exact of_any n a b w
theorem rfit_at (n : Int) (a b : Bool) (m : Int) (c d : Bool) (w : World) :
    Calls Try.prog 12 #[R4 (seesB n) (seenB n) a b, R4 (seesB m) (seenB m) c d] w fun e w' => e = .returned (.bool (fitB n a b m c d)) ∧ Below w.heap.size w w' := rfit_any _ _ _ _ _ _ _ _ w

set_option maxRecDepth 100000 in
set_option maxHeartbeats 1000000 in
theorem pboth_i1 (n : Int) (a b : Bool) (m : Int) (c d : Bool) (act : Int) (h1 : Hid (rightB n a b = false)) (HB : Hid (∀ w : World, Calls Try.prog 9 #[S n a b, S m c d, .int .i64 act] w fun e w' => e = .returned (.tuple #[S 0 false false, S 0 false false, .int .i64 1]) ∧ Below w.heap.size w w')) (w : World) :
    Calls Try.prog 3 #[S n a b, S m c d, .int .i64 act] w fun e w' => e = .returned (.bool true) ∧ Below w.heap.size w w' := by
  go_enter Try.func3, Try.ntmps3
  go_wp2_with fail
  refine (lives_any _).mono ?_
  rintro e w1 ⟨rfl, hb1⟩
  have B1 : Below w.heap.size w w1 := ((((((Below.refl w.heap.size w)).alloc ((Below.refl w.heap.size w)).size (.cells #[.int .i64 n, .bool a, .bool b] 23))).alloc ((((Below.refl w.heap.size w)).alloc ((Below.refl w.heap.size w)).size (.cells #[.int .i64 n, .bool a, .bool b] 23))).size (.cells #[.int .i64 m, .bool c, .bool d] 23))).trans (hb1.mono ((((((Below.refl w.heap.size w)).alloc ((Below.refl w.heap.size w)).size (.cells #[.int .i64 n, .bool a, .bool b] 23))).alloc ((((Below.refl w.heap.size w)).alloc ((Below.refl w.heap.size w)).size (.cells #[.int .i64 n, .bool a, .bool b] 23))).size (.cells #[.int .i64 m, .bool c, .bool d] 23))).size)
  have p1 := ((Blk.new w 23 #[.int .i64 n, .bool a, .bool b]).alloc (.cells #[.int .i64 m, .bool c, .bool d] 23)).below hb1 ((Blk.new w 23 #[.int .i64 n, .bool a, .bool b]).alloc (.cells #[.int .i64 m, .bool c, .bool d] 23)).lt
  have q1 := (Blk.new (w.alloc (.cells #[.int .i64 n, .bool a, .bool b] 23)) 23 #[.int .i64 m, .bool c, .bool d]).below hb1 (Blk.new (w.alloc (.cells #[.int .i64 n, .bool a, .bool b] 23)) 23 #[.int .i64 m, .bool c, .bool d]).lt
  simp only [World.size_alloc] at q1
  clear hb1
  have zp0 := p1.cell 0
  have zp1 := p1.cell 1
  have zp2 := p1.cell 2
  have zq0 := q1.cell 0
  have zq1 := q1.cell 1
  have zq2 := q1.cell 2
  simp only [List.getElem?_toArray, List.getElem?_cons_zero, List.getElem?_cons_succ] at zp0 zp1 zp2 zq0 zq1 zq2
  go_wp2_with fail
  refine (HB _).mono ?_
  rintro e w2 ⟨rfl, hb2⟩
  have B2 : Below w.heap.size w w2 := (B1).trans (hb2.mono (B1).size)
  have p2 := (p1).below hb2 (p1).lt
  have q2 := (q1).below hb2 (q1).lt
  clear hb2 B1 p1 q1
  clear zp0 zp1 zp2 zq0 zq1 zq2
  have zp0 := fun o o' => ((p2.alloc o).alloc o').cell 0
  have zp1 := fun o o' => ((p2.alloc o).alloc o').cell 1
  have zp2 := fun o o' => ((p2.alloc o).alloc o').cell 2
  have zq0 := fun o o' => ((q2.alloc o).alloc o').cell 0
  have zq1 := fun o o' => ((q2.alloc o).alloc o').cell 1
  have zq2 := fun o o' => ((q2.alloc o).alloc o').cell 2
  simp only [List.getElem?_toArray, List.getElem?_cons_zero, List.getElem?_cons_succ] at zp0 zp1 zp2 zq0 zq1 zq2
  go_wp2_with fail
  refine (of_at n a b false h1 _).mono ?_
  rintro e w3 ⟨rfl, hb3⟩
  have B3 : Below w.heap.size w w3 := (((((B2).alloc (B2).size (.cells #[.int .i64 0, .bool false, .bool false] 23))).alloc (((B2).alloc (B2).size (.cells #[.int .i64 0, .bool false, .bool false] 23))).size (.cells #[.int .i64 0, .bool false, .bool false] 23))).trans (hb3.mono (((((B2).alloc (B2).size (.cells #[.int .i64 0, .bool false, .bool false] 23))).alloc (((B2).alloc (B2).size (.cells #[.int .i64 0, .bool false, .bool false] 23))).size (.cells #[.int .i64 0, .bool false, .bool false] 23))).size)
  have p3 := (((((p2).alloc (.cells #[.int .i64 0, .bool false, .bool false] 23))).alloc (.cells #[.int .i64 0, .bool false, .bool false] 23))).below hb3 (((((p2).alloc (.cells #[.int .i64 0, .bool false, .bool false] 23))).alloc (.cells #[.int .i64 0, .bool false, .bool false] 23))).lt
  have q3 := (((((q2).alloc (.cells #[.int .i64 0, .bool false, .bool false] 23))).alloc (.cells #[.int .i64 0, .bool false, .bool false] 23))).below hb3 (((((q2).alloc (.cells #[.int .i64 0, .bool false, .bool false] 23))).alloc (.cells #[.int .i64 0, .bool false, .bool false] 23))).lt
  have u3 := ((Blk.new w2 23 #[.int .i64 0, .bool false, .bool false]).alloc (.cells #[.int .i64 0, .bool false, .bool false] 23)).below hb3 ((Blk.new w2 23 #[.int .i64 0, .bool false, .bool false]).alloc (.cells #[.int .i64 0, .bool false, .bool false] 23)).lt
  have v3 := (Blk.new (w2.alloc (.cells #[.int .i64 0, .bool false, .bool false] 23)) 23 #[.int .i64 0, .bool false, .bool false]).below hb3 (Blk.new (w2.alloc (.cells #[.int .i64 0, .bool false, .bool false] 23)) 23 #[.int .i64 0, .bool false, .bool false]).lt
  simp only [World.size_alloc] at v3
  clear hb3 B2 p2 q2
  clear zp0 zp1 zp2 zq0 zq1 zq2
  have zp0 := fun o => (p3.alloc o).cell 0
  have zp1 := fun o => (p3.alloc o).cell 1
  have zp2 := fun o => (p3.alloc o).cell 2
  have zq0 := fun o => (q3.alloc o).cell 0
  have zq1 := fun o => (q3.alloc o).cell 1
  have zq2 := fun o => (q3.alloc o).cell 2
  simp only [List.getElem?_toArray, List.getElem?_cons_zero, List.getElem?_cons_succ] at zp0 zp1 zp2 zq0 zq1 zq2
  go_wp2_with fail
  refine (of_any m c d _).mono ?_
  rintro e w4 ⟨rfl, hb4⟩
  have B4 : Below w.heap.size w w4 := (((B3).alloc (B3).size (.cells #[.bool (seesB n), .bool (seenB n), .bool a, .bool b] 29))).trans (hb4.mono (((B3).alloc (B3).size (.cells #[.bool (seesB n), .bool (seenB n), .bool a, .bool b] 29))).size)
  have p4 := (((p3).alloc (.cells #[.bool (seesB n), .bool (seenB n), .bool a, .bool b] 29))).below hb4 (((p3).alloc (.cells #[.bool (seesB n), .bool (seenB n), .bool a, .bool b] 29))).lt
  have q4 := (((q3).alloc (.cells #[.bool (seesB n), .bool (seenB n), .bool a, .bool b] 29))).below hb4 (((q3).alloc (.cells #[.bool (seesB n), .bool (seenB n), .bool a, .bool b] 29))).lt
  have u4 := (((u3).alloc (.cells #[.bool (seesB n), .bool (seenB n), .bool a, .bool b] 29))).below hb4 (((u3).alloc (.cells #[.bool (seesB n), .bool (seenB n), .bool a, .bool b] 29))).lt
  have v4 := (((v3).alloc (.cells #[.bool (seesB n), .bool (seenB n), .bool a, .bool b] 29))).below hb4 (((v3).alloc (.cells #[.bool (seesB n), .bool (seenB n), .bool a, .bool b] 29))).lt
  have r4 := (Blk.new w3 29 #[.bool (seesB n), .bool (seenB n), .bool a, .bool b]).below hb4 (Blk.new w3 29 #[.bool (seesB n), .bool (seenB n), .bool a, .bool b]).lt
  clear hb4 B3 p3 q3 u3 v3
  clear zp0 zp1 zp2 zq0 zq1 zq2
  have Fa : Hid (∀ w' : World, KB w [(w.heap.size, 23, #[.int .i64 n, .bool a, .bool b]), ((w.heap.size + 1), 23, #[.int .i64 m, .bool c, .bool d]), (w2.heap.size, 23, #[.int .i64 0, .bool false, .bool false]), ((w2.heap.size + 1), 23, #[.int .i64 0, .bool false, .bool false]), (w3.heap.size, 29, #[.bool (seesB n), .bool (seenB n), .bool a, .bool b]), (w4.heap.size, 29, #[.bool (seesB m), .bool (seenB m), .bool c, .bool d])] w' → w'.cell? ⟨w.heap.size, 0, none⟩ = some (.int .i64 n) ∧ w'.cell? ⟨w.heap.size, 1, none⟩ = some (.bool a) ∧ w'.cell? ⟨w.heap.size, 2, none⟩ = some (.bool b) ∧ w'.cell? ⟨(w.heap.size + 1), 0, none⟩ = some (.int .i64 m) ∧ w'.cell? ⟨(w.heap.size + 1), 1, none⟩ = some (.bool c) ∧ w'.cell? ⟨(w.heap.size + 1), 2, none⟩ = some (.bool d) ∧ w'.cell? ⟨w3.heap.size, 0, none⟩ = some (.bool (seesB n)) ∧ w'.cell? ⟨w3.heap.size, 1, none⟩ = some (.bool (seenB n)) ∧ w'.cell? ⟨w3.heap.size, 2, none⟩ = some (.bool a) ∧ w'.cell? ⟨w3.heap.size, 3, none⟩ = some (.bool b) ∧ w'.cell? ⟨w4.heap.size, 0, none⟩ = some (.bool (seesB m)) ∧ w'.cell? ⟨w4.heap.size, 1, none⟩ = some (.bool (seenB m)) ∧ w'.cell? ⟨w4.heap.size, 2, none⟩ = some (.bool c) ∧ w'.cell? ⟨w4.heap.size, 3, none⟩ = some (.bool d) ∧ KB w [(w.heap.size, 23, #[.int .i64 n, .bool a, .bool b]), ((w.heap.size + 1), 23, #[.int .i64 m, .bool c, .bool d]), (w2.heap.size, 23, #[.int .i64 0, .bool false, .bool false]), ((w2.heap.size + 1), 23, #[.int .i64 0, .bool false, .bool false]), (w3.heap.size, 29, #[.bool (seesB n), .bool (seenB n), .bool a, .bool b]), (w4.heap.size, 29, #[.bool (seesB m), .bool (seenB m), .bool c, .bool d])] w') := fun w' h => ⟨(h.1 _ (List.mem_cons_self ..)).cell 0, (h.1 _ (List.mem_cons_self ..)).cell 1, (h.1 _ (List.mem_cons_self ..)).cell 2, (h.1 _ (List.mem_cons_of_mem _ (List.mem_cons_self ..))).cell 0, (h.1 _ (List.mem_cons_of_mem _ (List.mem_cons_self ..))).cell 1, (h.1 _ (List.mem_cons_of_mem _ (List.mem_cons_self ..))).cell 2, (h.1 _ (List.mem_cons_of_mem _ (List.mem_cons_of_mem _ (List.mem_cons_of_mem _ (List.mem_cons_of_mem _ (List.mem_cons_self ..)))))).cell 0, (h.1 _ (List.mem_cons_of_mem _ (List.mem_cons_of_mem _ (List.mem_cons_of_mem _ (List.mem_cons_of_mem _ (List.mem_cons_self ..)))))).cell 1, (h.1 _ (List.mem_cons_of_mem _ (List.mem_cons_of_mem _ (List.mem_cons_of_mem _ (List.mem_cons_of_mem _ (List.mem_cons_self ..)))))).cell 2, (h.1 _ (List.mem_cons_of_mem _ (List.mem_cons_of_mem _ (List.mem_cons_of_mem _ (List.mem_cons_of_mem _ (List.mem_cons_self ..)))))).cell 3, (h.1 _ (List.mem_cons_of_mem _ (List.mem_cons_of_mem _ (List.mem_cons_of_mem _ (List.mem_cons_of_mem _ (List.mem_cons_of_mem _ (List.mem_cons_self ..))))))).cell 0, (h.1 _ (List.mem_cons_of_mem _ (List.mem_cons_of_mem _ (List.mem_cons_of_mem _ (List.mem_cons_of_mem _ (List.mem_cons_of_mem _ (List.mem_cons_self ..))))))).cell 1, (h.1 _ (List.mem_cons_of_mem _ (List.mem_cons_of_mem _ (List.mem_cons_of_mem _ (List.mem_cons_of_mem _ (List.mem_cons_of_mem _ (List.mem_cons_self ..))))))).cell 2, (h.1 _ (List.mem_cons_of_mem _ (List.mem_cons_of_mem _ (List.mem_cons_of_mem _ (List.mem_cons_of_mem _ (List.mem_cons_of_mem _ (List.mem_cons_self ..))))))).cell 3, h⟩
  have Ga : Hid (∀ W w' : World, Below W.heap.size W w' → (W.cell? ⟨w.heap.size, 0, none⟩ = some (.int .i64 n) ∧ W.cell? ⟨w.heap.size, 1, none⟩ = some (.bool a) ∧ W.cell? ⟨w.heap.size, 2, none⟩ = some (.bool b) ∧ W.cell? ⟨(w.heap.size + 1), 0, none⟩ = some (.int .i64 m) ∧ W.cell? ⟨(w.heap.size + 1), 1, none⟩ = some (.bool c) ∧ W.cell? ⟨(w.heap.size + 1), 2, none⟩ = some (.bool d) ∧ W.cell? ⟨w3.heap.size, 0, none⟩ = some (.bool (seesB n)) ∧ W.cell? ⟨w3.heap.size, 1, none⟩ = some (.bool (seenB n)) ∧ W.cell? ⟨w3.heap.size, 2, none⟩ = some (.bool a) ∧ W.cell? ⟨w3.heap.size, 3, none⟩ = some (.bool b) ∧ W.cell? ⟨w4.heap.size, 0, none⟩ = some (.bool (seesB m)) ∧ W.cell? ⟨w4.heap.size, 1, none⟩ = some (.bool (seenB m)) ∧ W.cell? ⟨w4.heap.size, 2, none⟩ = some (.bool c) ∧ W.cell? ⟨w4.heap.size, 3, none⟩ = some (.bool d) ∧ KB w [(w.heap.size, 23, #[.int .i64 n, .bool a, .bool b]), ((w.heap.size + 1), 23, #[.int .i64 m, .bool c, .bool d]), (w2.heap.size, 23, #[.int .i64 0, .bool false, .bool false]), ((w2.heap.size + 1), 23, #[.int .i64 0, .bool false, .bool false]), (w3.heap.size, 29, #[.bool (seesB n), .bool (seenB n), .bool a, .bool b]), (w4.heap.size, 29, #[.bool (seesB m), .bool (seenB m), .bool c, .bool d])] W) → KB w [(w.heap.size, 23, #[.int .i64 n, .bool a, .bool b]), ((w.heap.size + 1), 23, #[.int .i64 m, .bool c, .bool d]), (w2.heap.size, 23, #[.int .i64 0, .bool false, .bool false]), ((w2.heap.size + 1), 23, #[.int .i64 0, .bool false, .bool false]), (w3.heap.size, 29, #[.bool (seesB n), .bool (seenB n), .bool a, .bool b]), (w4.heap.size, 29, #[.bool (seesB m), .bool (seenB m), .bool c, .bool d])] w') := fun W w' hb h => kb_below hb h.2.2.2.2.2.2.2.2.2.2.2.2.2.2
  have Ka : KB w [(w.heap.size, 23, #[.int .i64 n, .bool a, .bool b]), ((w.heap.size + 1), 23, #[.int .i64 m, .bool c, .bool d]), (w2.heap.size, 23, #[.int .i64 0, .bool false, .bool false]), ((w2.heap.size + 1), 23, #[.int .i64 0, .bool false, .bool false]), (w3.heap.size, 29, #[.bool (seesB n), .bool (seenB n), .bool a, .bool b]), (w4.heap.size, 29, #[.bool (seesB m), .bool (seenB m), .bool c, .bool d])] (w4.alloc (.cells #[.bool (seesB m), .bool (seenB m), .bool c, .bool d] 29)) := kb_cons (p4.alloc _) (kb_cons (q4.alloc _) (kb_cons (u4.alloc _) (kb_cons (v4.alloc _) (kb_cons (r4.alloc _) (kb_cons (Blk.new _ _ _) (kb_nil (B4.alloc B4.size _)))))))
  clear B4 p4 q4 u4 v4 r4
  go_wp2_with fail
  go_region_held3 (fun w' => w'.cell? ⟨w.heap.size, 0, none⟩ = some (.int .i64 n) ∧ w'.cell? ⟨w.heap.size, 1, none⟩ = some (.bool a) ∧ w'.cell? ⟨w.heap.size, 2, none⟩ = some (.bool b) ∧ w'.cell? ⟨(w.heap.size + 1), 0, none⟩ = some (.int .i64 m) ∧ w'.cell? ⟨(w.heap.size + 1), 1, none⟩ = some (.bool c) ∧ w'.cell? ⟨(w.heap.size + 1), 2, none⟩ = some (.bool d) ∧ w'.cell? ⟨w3.heap.size, 0, none⟩ = some (.bool (seesB n)) ∧ w'.cell? ⟨w3.heap.size, 1, none⟩ = some (.bool (seenB n)) ∧ w'.cell? ⟨w3.heap.size, 2, none⟩ = some (.bool a) ∧ w'.cell? ⟨w3.heap.size, 3, none⟩ = some (.bool b) ∧ w'.cell? ⟨w4.heap.size, 0, none⟩ = some (.bool (seesB m)) ∧ w'.cell? ⟨w4.heap.size, 1, none⟩ = some (.bool (seenB m)) ∧ w'.cell? ⟨w4.heap.size, 2, none⟩ = some (.bool c) ∧ w'.cell? ⟨w4.heap.size, 3, none⟩ = some (.bool d) ∧ KB w [(w.heap.size, 23, #[.int .i64 n, .bool a, .bool b]), ((w.heap.size + 1), 23, #[.int .i64 m, .bool c, .bool d]), (w2.heap.size, 23, #[.int .i64 0, .bool false, .bool false]), ((w2.heap.size + 1), 23, #[.int .i64 0, .bool false, .bool false]), (w3.heap.size, 29, #[.bool (seesB n), .bool (seenB n), .bool a, .bool b]), (w4.heap.size, 29, #[.bool (seesB m), .bool (seenB m), .bool c, .bool d])] w') ((refine Fa.out _ ?_; first | assumption | exact kb_dr (by assumption)))
    (first | (go_at_call 11; refine (fit_any n a b m c d _).mono ?_; rintro e w5 ⟨rfl, hb5⟩; have K5 := Ga.out _ _ hb5 (by assumption); clear hb5) | (go_at_call 12; refine (rfit_at n a b m c d _).mono ?_; rintro e w6 ⟨rfl, hb6⟩; have K6 := Ga.out _ _ hb6 (by assumption); clear hb6))
  have zu0 := (K6.1 _ (List.mem_cons_of_mem _ (List.mem_cons_of_mem _ (List.mem_cons_self ..)))).cell 0
  have zu1 := (K6.1 _ (List.mem_cons_of_mem _ (List.mem_cons_of_mem _ (List.mem_cons_self ..)))).cell 1
  have zu2 := (K6.1 _ (List.mem_cons_of_mem _ (List.mem_cons_of_mem _ (List.mem_cons_self ..)))).cell 2
  have zv0 := (K6.1 _ (List.mem_cons_of_mem _ (List.mem_cons_of_mem _ (List.mem_cons_of_mem _ (List.mem_cons_self ..))))).cell 0
  have zv1 := (K6.1 _ (List.mem_cons_of_mem _ (List.mem_cons_of_mem _ (List.mem_cons_of_mem _ (List.mem_cons_self ..))))).cell 1
  have zv2 := (K6.1 _ (List.mem_cons_of_mem _ (List.mem_cons_of_mem _ (List.mem_cons_of_mem _ (List.mem_cons_self ..))))).cell 2
  simp only [List.getElem?_toArray, List.getElem?_cons_zero, List.getElem?_cons_succ] at zu0 zu1 zu2 zv0 zv1 zv2
  go_wp2
  go_ret
  exact ⟨rfl, K6.2⟩

set_option maxRecDepth 100000 in
set_option maxHeartbeats 1000000 in
theorem pboth_i2 (n : Int) (a b : Bool) (m : Int) (c d : Bool) (act : Int) (h1 : Hid (rightB n a b = true)) (h2 : Hid (rightB m c d = false)) (HB : Hid (∀ w : World, Calls Try.prog 9 #[S n a b, S m c d, .int .i64 act] w fun e w' => e = .returned (.tuple #[S 0 false false, S 0 false false, .int .i64 1]) ∧ Below w.heap.size w w')) (w : World) :
    Calls Try.prog 3 #[S n a b, S m c d, .int .i64 act] w fun e w' => e = .returned (.bool true) ∧ Below w.heap.size w w' := by
  go_enter Try.func3, Try.ntmps3
  go_wp2_with fail
  refine (lives_any _).mono ?_
  rintro e w1 ⟨rfl, hb1⟩
  have B1 : Below w.heap.size w w1 := ((((((Below.refl w.heap.size w)).alloc ((Below.refl w.heap.size w)).size (.cells #[.int .i64 n, .bool a, .bool b] 23))).alloc ((((Below.refl w.heap.size w)).alloc ((Below.refl w.heap.size w)).size (.cells #[.int .i64 n, .bool a, .bool b] 23))).size (.cells #[.int .i64 m, .bool c, .bool d] 23))).trans (hb1.mono ((((((Below.refl w.heap.size w)).alloc ((Below.refl w.heap.size w)).size (.cells #[.int .i64 n, .bool a, .bool b] 23))).alloc ((((Below.refl w.heap.size w)).alloc ((Below.refl w.heap.size w)).size (.cells #[.int .i64 n, .bool a, .bool b] 23))).size (.cells #[.int .i64 m, .bool c, .bool d] 23))).size)
  have p1 := ((Blk.new w 23 #[.int .i64 n, .bool a, .bool b]).alloc (.cells #[.int .i64 m, .bool c, .bool d] 23)).below hb1 ((Blk.new w 23 #[.int .i64 n, .bool a, .bool b]).alloc (.cells #[.int .i64 m, .bool c, .bool d] 23)).lt
  have q1 := (Blk.new (w.alloc (.cells #[.int .i64 n, .bool a, .bool b] 23)) 23 #[.int .i64 m, .bool c, .bool d]).below hb1 (Blk.new (w.alloc (.cells #[.int .i64 n, .bool a, .bool b] 23)) 23 #[.int .i64 m, .bool c, .bool d]).lt
  simp only [World.size_alloc] at q1
  clear hb1
  have zp0 := p1.cell 0
  have zp1 := p1.cell 1
  have zp2 := p1.cell 2
  have zq0 := q1.cell 0
  have zq1 := q1.cell 1
  have zq2 := q1.cell 2
  simp only [List.getElem?_toArray, List.getElem?_cons_zero, List.getElem?_cons_succ] at zp0 zp1 zp2 zq0 zq1 zq2
  go_wp2_with fail
  refine (HB _).mono ?_
  rintro e w2 ⟨rfl, hb2⟩
  have B2 : Below w.heap.size w w2 := (B1).trans (hb2.mono (B1).size)
  have p2 := (p1).below hb2 (p1).lt
  have q2 := (q1).below hb2 (q1).lt
  clear hb2 B1 p1 q1
  clear zp0 zp1 zp2 zq0 zq1 zq2
  have zp0 := fun o o' => ((p2.alloc o).alloc o').cell 0
  have zp1 := fun o o' => ((p2.alloc o).alloc o').cell 1
  have zp2 := fun o o' => ((p2.alloc o).alloc o').cell 2
  have zq0 := fun o o' => ((q2.alloc o).alloc o').cell 0
  have zq1 := fun o o' => ((q2.alloc o).alloc o').cell 1
  have zq2 := fun o o' => ((q2.alloc o).alloc o').cell 2
  simp only [List.getElem?_toArray, List.getElem?_cons_zero, List.getElem?_cons_succ] at zp0 zp1 zp2 zq0 zq1 zq2
  go_wp2_with fail
  refine (of_at n a b true h1 _).mono ?_
  rintro e w3 ⟨rfl, hb3⟩
  have B3 : Below w.heap.size w w3 := (((((B2).alloc (B2).size (.cells #[.int .i64 0, .bool false, .bool false] 23))).alloc (((B2).alloc (B2).size (.cells #[.int .i64 0, .bool false, .bool false] 23))).size (.cells #[.int .i64 0, .bool false, .bool false] 23))).trans (hb3.mono (((((B2).alloc (B2).size (.cells #[.int .i64 0, .bool false, .bool false] 23))).alloc (((B2).alloc (B2).size (.cells #[.int .i64 0, .bool false, .bool false] 23))).size (.cells #[.int .i64 0, .bool false, .bool false] 23))).size)
  have p3 := (((((p2).alloc (.cells #[.int .i64 0, .bool false, .bool false] 23))).alloc (.cells #[.int .i64 0, .bool false, .bool false] 23))).below hb3 (((((p2).alloc (.cells #[.int .i64 0, .bool false, .bool false] 23))).alloc (.cells #[.int .i64 0, .bool false, .bool false] 23))).lt
  have q3 := (((((q2).alloc (.cells #[.int .i64 0, .bool false, .bool false] 23))).alloc (.cells #[.int .i64 0, .bool false, .bool false] 23))).below hb3 (((((q2).alloc (.cells #[.int .i64 0, .bool false, .bool false] 23))).alloc (.cells #[.int .i64 0, .bool false, .bool false] 23))).lt
  have u3 := ((Blk.new w2 23 #[.int .i64 0, .bool false, .bool false]).alloc (.cells #[.int .i64 0, .bool false, .bool false] 23)).below hb3 ((Blk.new w2 23 #[.int .i64 0, .bool false, .bool false]).alloc (.cells #[.int .i64 0, .bool false, .bool false] 23)).lt
  have v3 := (Blk.new (w2.alloc (.cells #[.int .i64 0, .bool false, .bool false] 23)) 23 #[.int .i64 0, .bool false, .bool false]).below hb3 (Blk.new (w2.alloc (.cells #[.int .i64 0, .bool false, .bool false] 23)) 23 #[.int .i64 0, .bool false, .bool false]).lt
  simp only [World.size_alloc] at v3
  clear hb3 B2 p2 q2
  clear zp0 zp1 zp2 zq0 zq1 zq2
  have zp0 := fun o => (p3.alloc o).cell 0
  have zp1 := fun o => (p3.alloc o).cell 1
  have zp2 := fun o => (p3.alloc o).cell 2
  have zq0 := fun o => (q3.alloc o).cell 0
  have zq1 := fun o => (q3.alloc o).cell 1
  have zq2 := fun o => (q3.alloc o).cell 2
  simp only [List.getElem?_toArray, List.getElem?_cons_zero, List.getElem?_cons_succ] at zp0 zp1 zp2 zq0 zq1 zq2
  go_wp2_with fail
  refine (of_at m c d false h2 _).mono ?_
  rintro e w4 ⟨rfl, hb4⟩
  have B4 : Below w.heap.size w w4 := (((B3).alloc (B3).size (.cells #[.bool (seesB n), .bool (seenB n), .bool a, .bool b] 29))).trans (hb4.mono (((B3).alloc (B3).size (.cells #[.bool (seesB n), .bool (seenB n), .bool a, .bool b] 29))).size)
  have p4 := (((p3).alloc (.cells #[.bool (seesB n), .bool (seenB n), .bool a, .bool b] 29))).below hb4 (((p3).alloc (.cells #[.bool (seesB n), .bool (seenB n), .bool a, .bool b] 29))).lt
  have q4 := (((q3).alloc (.cells #[.bool (seesB n), .bool (seenB n), .bool a, .bool b] 29))).below hb4 (((q3).alloc (.cells #[.bool (seesB n), .bool (seenB n), .bool a, .bool b] 29))).lt
  have u4 := (((u3).alloc (.cells #[.bool (seesB n), .bool (seenB n), .bool a, .bool b] 29))).below hb4 (((u3).alloc (.cells #[.bool (seesB n), .bool (seenB n), .bool a, .bool b] 29))).lt
  have v4 := (((v3).alloc (.cells #[.bool (seesB n), .bool (seenB n), .bool a, .bool b] 29))).below hb4 (((v3).alloc (.cells #[.bool (seesB n), .bool (seenB n), .bool a, .bool b] 29))).lt
  have r4 := (Blk.new w3 29 #[.bool (seesB n), .bool (seenB n), .bool a, .bool b]).below hb4 (Blk.new w3 29 #[.bool (seesB n), .bool (seenB n), .bool a, .bool b]).lt
  clear hb4 B3 p3 q3 u3 v3
  clear zp0 zp1 zp2 zq0 zq1 zq2
  have Fa : Hid (∀ w' : World, KB w [(w.heap.size, 23, #[.int .i64 n, .bool a, .bool b]), ((w.heap.size + 1), 23, #[.int .i64 m, .bool c, .bool d]), (w2.heap.size, 23, #[.int .i64 0, .bool false, .bool false]), ((w2.heap.size + 1), 23, #[.int .i64 0, .bool false, .bool false]), (w3.heap.size, 29, #[.bool (seesB n), .bool (seenB n), .bool a, .bool b]), (w4.heap.size, 29, #[.bool (seesB m), .bool (seenB m), .bool c, .bool d])] w' → w'.cell? ⟨w.heap.size, 0, none⟩ = some (.int .i64 n) ∧ w'.cell? ⟨w.heap.size, 1, none⟩ = some (.bool a) ∧ w'.cell? ⟨w.heap.size, 2, none⟩ = some (.bool b) ∧ w'.cell? ⟨(w.heap.size + 1), 0, none⟩ = some (.int .i64 m) ∧ w'.cell? ⟨(w.heap.size + 1), 1, none⟩ = some (.bool c) ∧ w'.cell? ⟨(w.heap.size + 1), 2, none⟩ = some (.bool d) ∧ w'.cell? ⟨w3.heap.size, 0, none⟩ = some (.bool (seesB n)) ∧ w'.cell? ⟨w3.heap.size, 1, none⟩ = some (.bool (seenB n)) ∧ w'.cell? ⟨w3.heap.size, 2, none⟩ = some (.bool a) ∧ w'.cell? ⟨w3.heap.size, 3, none⟩ = some (.bool b) ∧ w'.cell? ⟨w4.heap.size, 0, none⟩ = some (.bool (seesB m)) ∧ w'.cell? ⟨w4.heap.size, 1, none⟩ = some (.bool (seenB m)) ∧ w'.cell? ⟨w4.heap.size, 2, none⟩ = some (.bool c) ∧ w'.cell? ⟨w4.heap.size, 3, none⟩ = some (.bool d) ∧ KB w [(w.heap.size, 23, #[.int .i64 n, .bool a, .bool b]), ((w.heap.size + 1), 23, #[.int .i64 m, .bool c, .bool d]), (w2.heap.size, 23, #[.int .i64 0, .bool false, .bool false]), ((w2.heap.size + 1), 23, #[.int .i64 0, .bool false, .bool false]), (w3.heap.size, 29, #[.bool (seesB n), .bool (seenB n), .bool a, .bool b]), (w4.heap.size, 29, #[.bool (seesB m), .bool (seenB m), .bool c, .bool d])] w') := fun w' h => ⟨(h.1 _ (List.mem_cons_self ..)).cell 0, (h.1 _ (List.mem_cons_self ..)).cell 1, (h.1 _ (List.mem_cons_self ..)).cell 2, (h.1 _ (List.mem_cons_of_mem _ (List.mem_cons_self ..))).cell 0, (h.1 _ (List.mem_cons_of_mem _ (List.mem_cons_self ..))).cell 1, (h.1 _ (List.mem_cons_of_mem _ (List.mem_cons_self ..))).cell 2, (h.1 _ (List.mem_cons_of_mem _ (List.mem_cons_of_mem _ (List.mem_cons_of_mem _ (List.mem_cons_of_mem _ (List.mem_cons_self ..)))))).cell 0, (h.1 _ (List.mem_cons_of_mem _ (List.mem_cons_of_mem _ (List.mem_cons_of_mem _ (List.mem_cons_of_mem _ (List.mem_cons_self ..)))))).cell 1, (h.1 _ (List.mem_cons_of_mem _ (List.mem_cons_of_mem _ (List.mem_cons_of_mem _ (List.mem_cons_of_mem _ (List.mem_cons_self ..)))))).cell 2, (h.1 _ (List.mem_cons_of_mem _ (List.mem_cons_of_mem _ (List.mem_cons_of_mem _ (List.mem_cons_of_mem _ (List.mem_cons_self ..)))))).cell 3, (h.1 _ (List.mem_cons_of_mem _ (List.mem_cons_of_mem _ (List.mem_cons_of_mem _ (List.mem_cons_of_mem _ (List.mem_cons_of_mem _ (List.mem_cons_self ..))))))).cell 0, (h.1 _ (List.mem_cons_of_mem _ (List.mem_cons_of_mem _ (List.mem_cons_of_mem _ (List.mem_cons_of_mem _ (List.mem_cons_of_mem _ (List.mem_cons_self ..))))))).cell 1, (h.1 _ (List.mem_cons_of_mem _ (List.mem_cons_of_mem _ (List.mem_cons_of_mem _ (List.mem_cons_of_mem _ (List.mem_cons_of_mem _ (List.mem_cons_self ..))))))).cell 2, (h.1 _ (List.mem_cons_of_mem _ (List.mem_cons_of_mem _ (List.mem_cons_of_mem _ (List.mem_cons_of_mem _ (List.mem_cons_of_mem _ (List.mem_cons_self ..))))))).cell 3, h⟩
  have Ga : Hid (∀ W w' : World, Below W.heap.size W w' → (W.cell? ⟨w.heap.size, 0, none⟩ = some (.int .i64 n) ∧ W.cell? ⟨w.heap.size, 1, none⟩ = some (.bool a) ∧ W.cell? ⟨w.heap.size, 2, none⟩ = some (.bool b) ∧ W.cell? ⟨(w.heap.size + 1), 0, none⟩ = some (.int .i64 m) ∧ W.cell? ⟨(w.heap.size + 1), 1, none⟩ = some (.bool c) ∧ W.cell? ⟨(w.heap.size + 1), 2, none⟩ = some (.bool d) ∧ W.cell? ⟨w3.heap.size, 0, none⟩ = some (.bool (seesB n)) ∧ W.cell? ⟨w3.heap.size, 1, none⟩ = some (.bool (seenB n)) ∧ W.cell? ⟨w3.heap.size, 2, none⟩ = some (.bool a) ∧ W.cell? ⟨w3.heap.size, 3, none⟩ = some (.bool b) ∧ W.cell? ⟨w4.heap.size, 0, none⟩ = some (.bool (seesB m)) ∧ W.cell? ⟨w4.heap.size, 1, none⟩ = some (.bool (seenB m)) ∧ W.cell? ⟨w4.heap.size, 2, none⟩ = some (.bool c) ∧ W.cell? ⟨w4.heap.size, 3, none⟩ = some (.bool d) ∧ KB w [(w.heap.size, 23, #[.int .i64 n, .bool a, .bool b]), ((w.heap.size + 1), 23, #[.int .i64 m, .bool c, .bool d]), (w2.heap.size, 23, #[.int .i64 0, .bool false, .bool false]), ((w2.heap.size + 1), 23, #[.int .i64 0, .bool false, .bool false]), (w3.heap.size, 29, #[.bool (seesB n), .bool (seenB n), .bool a, .bool b]), (w4.heap.size, 29, #[.bool (seesB m), .bool (seenB m), .bool c, .bool d])] W) → KB w [(w.heap.size, 23, #[.int .i64 n, .bool a, .bool b]), ((w.heap.size + 1), 23, #[.int .i64 m, .bool c, .bool d]), (w2.heap.size, 23, #[.int .i64 0, .bool false, .bool false]), ((w2.heap.size + 1), 23, #[.int .i64 0, .bool false, .bool false]), (w3.heap.size, 29, #[.bool (seesB n), .bool (seenB n), .bool a, .bool b]), (w4.heap.size, 29, #[.bool (seesB m), .bool (seenB m), .bool c, .bool d])] w') := fun W w' hb h => kb_below hb h.2.2.2.2.2.2.2.2.2.2.2.2.2.2
  have Ka : KB w [(w.heap.size, 23, #[.int .i64 n, .bool a, .bool b]), ((w.heap.size + 1), 23, #[.int .i64 m, .bool c, .bool d]), (w2.heap.size, 23, #[.int .i64 0, .bool false, .bool false]), ((w2.heap.size + 1), 23, #[.int .i64 0, .bool false, .bool false]), (w3.heap.size, 29, #[.bool (seesB n), .bool (seenB n), .bool a, .bool b]), (w4.heap.size, 29, #[.bool (seesB m), .bool (seenB m), .bool c, .bool d])] (w4.alloc (.cells #[.bool (seesB m), .bool (seenB m), .bool c, .bool d] 29)) := kb_cons (p4.alloc _) (kb_cons (q4.alloc _) (kb_cons (u4.alloc _) (kb_cons (v4.alloc _) (kb_cons (r4.alloc _) (kb_cons (Blk.new _ _ _) (kb_nil (B4.alloc B4.size _)))))))
  clear B4 p4 q4 u4 v4 r4
  go_wp2_with fail
  go_region_held3 (fun w' => w'.cell? ⟨w.heap.size, 0, none⟩ = some (.int .i64 n) ∧ w'.cell? ⟨w.heap.size, 1, none⟩ = some (.bool a) ∧ w'.cell? ⟨w.heap.size, 2, none⟩ = some (.bool b) ∧ w'.cell? ⟨(w.heap.size + 1), 0, none⟩ = some (.int .i64 m) ∧ w'.cell? ⟨(w.heap.size + 1), 1, none⟩ = some (.bool c) ∧ w'.cell? ⟨(w.heap.size + 1), 2, none⟩ = some (.bool d) ∧ w'.cell? ⟨w3.heap.size, 0, none⟩ = some (.bool (seesB n)) ∧ w'.cell? ⟨w3.heap.size, 1, none⟩ = some (.bool (seenB n)) ∧ w'.cell? ⟨w3.heap.size, 2, none⟩ = some (.bool a) ∧ w'.cell? ⟨w3.heap.size, 3, none⟩ = some (.bool b) ∧ w'.cell? ⟨w4.heap.size, 0, none⟩ = some (.bool (seesB m)) ∧ w'.cell? ⟨w4.heap.size, 1, none⟩ = some (.bool (seenB m)) ∧ w'.cell? ⟨w4.heap.size, 2, none⟩ = some (.bool c) ∧ w'.cell? ⟨w4.heap.size, 3, none⟩ = some (.bool d) ∧ KB w [(w.heap.size, 23, #[.int .i64 n, .bool a, .bool b]), ((w.heap.size + 1), 23, #[.int .i64 m, .bool c, .bool d]), (w2.heap.size, 23, #[.int .i64 0, .bool false, .bool false]), ((w2.heap.size + 1), 23, #[.int .i64 0, .bool false, .bool false]), (w3.heap.size, 29, #[.bool (seesB n), .bool (seenB n), .bool a, .bool b]), (w4.heap.size, 29, #[.bool (seesB m), .bool (seenB m), .bool c, .bool d])] w') ((refine Fa.out _ ?_; first | assumption | exact kb_dr (by assumption)))
    (first | (go_at_call 11; refine (fit_any n a b m c d _).mono ?_; rintro e w5 ⟨rfl, hb5⟩; have K5 := Ga.out _ _ hb5 (by assumption); clear hb5) | (go_at_call 12; refine (rfit_at n a b m c d _).mono ?_; rintro e w6 ⟨rfl, hb6⟩; have K6 := Ga.out _ _ hb6 (by assumption); clear hb6))
  have zu0 := (K6.1 _ (List.mem_cons_of_mem _ (List.mem_cons_of_mem _ (List.mem_cons_self ..)))).cell 0
  have zu1 := (K6.1 _ (List.mem_cons_of_mem _ (List.mem_cons_of_mem _ (List.mem_cons_self ..)))).cell 1
  have zu2 := (K6.1 _ (List.mem_cons_of_mem _ (List.mem_cons_of_mem _ (List.mem_cons_self ..)))).cell 2
  have zv0 := (K6.1 _ (List.mem_cons_of_mem _ (List.mem_cons_of_mem _ (List.mem_cons_of_mem _ (List.mem_cons_self ..))))).cell 0
  have zv1 := (K6.1 _ (List.mem_cons_of_mem _ (List.mem_cons_of_mem _ (List.mem_cons_of_mem _ (List.mem_cons_self ..))))).cell 1
  have zv2 := (K6.1 _ (List.mem_cons_of_mem _ (List.mem_cons_of_mem _ (List.mem_cons_of_mem _ (List.mem_cons_self ..))))).cell 2
  simp only [List.getElem?_toArray, List.getElem?_cons_zero, List.getElem?_cons_succ] at zu0 zu1 zu2 zv0 zv1 zv2
  go_wp2
  go_ret
  exact ⟨rfl, K6.2⟩

set_option maxRecDepth 100000 in
set_option maxHeartbeats 1000000 in
theorem pboth_i3 (n : Int) (a b : Bool) (m : Int) (c d : Bool) (act : Int) (h1 : Hid (rightB n a b = true)) (h2 : Hid (rightB m c d = true)) (h3 : act < 1) (HB : Hid (∀ w : World, Calls Try.prog 9 #[S n a b, S m c d, .int .i64 act] w fun e w' => e = .returned (.tuple #[S 0 false false, S 0 false false, .int .i64 1]) ∧ Below w.heap.size w w')) (w : World) :
    Calls Try.prog 3 #[S n a b, S m c d, .int .i64 act] w fun e w' => e = .returned (.bool true) ∧ Below w.heap.size w w' := by
  go_enter Try.func3, Try.ntmps3
  go_wp2_with fail
  refine (lives_any _).mono ?_
  rintro e w1 ⟨rfl, hb1⟩
  have B1 : Below w.heap.size w w1 := ((((((Below.refl w.heap.size w)).alloc ((Below.refl w.heap.size w)).size (.cells #[.int .i64 n, .bool a, .bool b] 23))).alloc ((((Below.refl w.heap.size w)).alloc ((Below.refl w.heap.size w)).size (.cells #[.int .i64 n, .bool a, .bool b] 23))).size (.cells #[.int .i64 m, .bool c, .bool d] 23))).trans (hb1.mono ((((((Below.refl w.heap.size w)).alloc ((Below.refl w.heap.size w)).size (.cells #[.int .i64 n, .bool a, .bool b] 23))).alloc ((((Below.refl w.heap.size w)).alloc ((Below.refl w.heap.size w)).size (.cells #[.int .i64 n, .bool a, .bool b] 23))).size (.cells #[.int .i64 m, .bool c, .bool d] 23))).size)
  have p1 := ((Blk.new w 23 #[.int .i64 n, .bool a, .bool b]).alloc (.cells #[.int .i64 m, .bool c, .bool d] 23)).below hb1 ((Blk.new w 23 #[.int .i64 n, .bool a, .bool b]).alloc (.cells #[.int .i64 m, .bool c, .bool d] 23)).lt
  have q1 := (Blk.new (w.alloc (.cells #[.int .i64 n, .bool a, .bool b] 23)) 23 #[.int .i64 m, .bool c, .bool d]).below hb1 (Blk.new (w.alloc (.cells #[.int .i64 n, .bool a, .bool b] 23)) 23 #[.int .i64 m, .bool c, .bool d]).lt
  simp only [World.size_alloc] at q1
  clear hb1
  have zp0 := p1.cell 0
  have zp1 := p1.cell 1
  have zp2 := p1.cell 2
  have zq0 := q1.cell 0
  have zq1 := q1.cell 1
  have zq2 := q1.cell 2
  simp only [List.getElem?_toArray, List.getElem?_cons_zero, List.getElem?_cons_succ] at zp0 zp1 zp2 zq0 zq1 zq2
  go_wp2_with fail
  refine (HB _).mono ?_
  rintro e w2 ⟨rfl, hb2⟩
  have B2 : Below w.heap.size w w2 := (B1).trans (hb2.mono (B1).size)
  have p2 := (p1).below hb2 (p1).lt
  have q2 := (q1).below hb2 (q1).lt
  clear hb2 B1 p1 q1
  clear zp0 zp1 zp2 zq0 zq1 zq2
  have zp0 := fun o o' => ((p2.alloc o).alloc o').cell 0
  have zp1 := fun o o' => ((p2.alloc o).alloc o').cell 1
  have zp2 := fun o o' => ((p2.alloc o).alloc o').cell 2
  have zq0 := fun o o' => ((q2.alloc o).alloc o').cell 0
  have zq1 := fun o o' => ((q2.alloc o).alloc o').cell 1
  have zq2 := fun o o' => ((q2.alloc o).alloc o').cell 2
  simp only [List.getElem?_toArray, List.getElem?_cons_zero, List.getElem?_cons_succ] at zp0 zp1 zp2 zq0 zq1 zq2
  go_wp2_with fail
  refine (of_at n a b true h1 _).mono ?_
  rintro e w3 ⟨rfl, hb3⟩
  have B3 : Below w.heap.size w w3 := (((((B2).alloc (B2).size (.cells #[.int .i64 0, .bool false, .bool false] 23))).alloc (((B2).alloc (B2).size (.cells #[.int .i64 0, .bool false, .bool false] 23))).size (.cells #[.int .i64 0, .bool false, .bool false] 23))).trans (hb3.mono (((((B2).alloc (B2).size (.cells #[.int .i64 0, .bool false, .bool false] 23))).alloc (((B2).alloc (B2).size (.cells #[.int .i64 0, .bool false, .bool false] 23))).size (.cells #[.int .i64 0, .bool false, .bool false] 23))).size)
  have p3 := (((((p2).alloc (.cells #[.int .i64 0, .bool false, .bool false] 23))).alloc (.cells #[.int .i64 0, .bool false, .bool false] 23))).below hb3 (((((p2).alloc (.cells #[.int .i64 0, .bool false, .bool false] 23))).alloc (.cells #[.int .i64 0, .bool false, .bool false] 23))).lt
  have q3 := (((((q2).alloc (.cells #[.int .i64 0, .bool false, .bool false] 23))).alloc (.cells #[.int .i64 0, .bool false, .bool false] 23))).below hb3 (((((q2).alloc (.cells #[.int .i64 0, .bool false, .bool false] 23))).alloc (.cells #[.int .i64 0, .bool false, .bool false] 23))).lt
  have u3 := ((Blk.new w2 23 #[.int .i64 0, .bool false, .bool false]).alloc (.cells #[.int .i64 0, .bool false, .bool false] 23)).below hb3 ((Blk.new w2 23 #[.int .i64 0, .bool false, .bool false]).alloc (.cells #[.int .i64 0, .bool false, .bool false] 23)).lt
  have v3 := (Blk.new (w2.alloc (.cells #[.int .i64 0, .bool false, .bool false] 23)) 23 #[.int .i64 0, .bool false, .bool false]).below hb3 (Blk.new (w2.alloc (.cells #[.int .i64 0, .bool false, .bool false] 23)) 23 #[.int .i64 0, .bool false, .bool false]).lt
  simp only [World.size_alloc] at v3
  clear hb3 B2 p2 q2
  clear zp0 zp1 zp2 zq0 zq1 zq2
  have zp0 := fun o => (p3.alloc o).cell 0
  have zp1 := fun o => (p3.alloc o).cell 1
  have zp2 := fun o => (p3.alloc o).cell 2
  have zq0 := fun o => (q3.alloc o).cell 0
  have zq1 := fun o => (q3.alloc o).cell 1
  have zq2 := fun o => (q3.alloc o).cell 2
  simp only [List.getElem?_toArray, List.getElem?_cons_zero, List.getElem?_cons_succ] at zp0 zp1 zp2 zq0 zq1 zq2
  go_wp2_with fail
  refine (of_at m c d true h2 _).mono ?_
  rintro e w4 ⟨rfl, hb4⟩
  have B4 : Below w.heap.size w w4 := (((B3).alloc (B3).size (.cells #[.bool (seesB n), .bool (seenB n), .bool a, .bool b] 29))).trans (hb4.mono (((B3).alloc (B3).size (.cells #[.bool (seesB n), .bool (seenB n), .bool a, .bool b] 29))).size)
  have p4 := (((p3).alloc (.cells #[.bool (seesB n), .bool (seenB n), .bool a, .bool b] 29))).below hb4 (((p3).alloc (.cells #[.bool (seesB n), .bool (seenB n), .bool a, .bool b] 29))).lt
  have q4 := (((q3).alloc (.cells #[.bool (seesB n), .bool (seenB n), .bool a, .bool b] 29))).below hb4 (((q3).alloc (.cells #[.bool (seesB n), .bool (seenB n), .bool a, .bool b] 29))).lt
  have u4 := (((u3).alloc (.cells #[.bool (seesB n), .bool (seenB n), .bool a, .bool b] 29))).below hb4 (((u3).alloc (.cells #[.bool (seesB n), .bool (seenB n), .bool a, .bool b] 29))).lt
  have v4 := (((v3).alloc (.cells #[.bool (seesB n), .bool (seenB n), .bool a, .bool b] 29))).below hb4 (((v3).alloc (.cells #[.bool (seesB n), .bool (seenB n), .bool a, .bool b] 29))).lt
  have r4 := (Blk.new w3 29 #[.bool (seesB n), .bool (seenB n), .bool a, .bool b]).below hb4 (Blk.new w3 29 #[.bool (seesB n), .bool (seenB n), .bool a, .bool b]).lt
  clear hb4 B3 p3 q3 u3 v3
  clear zp0 zp1 zp2 zq0 zq1 zq2
  have Fa : Hid (∀ w' : World, KB w [(w.heap.size, 23, #[.int .i64 n, .bool a, .bool b]), ((w.heap.size + 1), 23, #[.int .i64 m, .bool c, .bool d]), (w2.heap.size, 23, #[.int .i64 0, .bool false, .bool false]), ((w2.heap.size + 1), 23, #[.int .i64 0, .bool false, .bool false]), (w3.heap.size, 29, #[.bool (seesB n), .bool (seenB n), .bool a, .bool b]), (w4.heap.size, 29, #[.bool (seesB m), .bool (seenB m), .bool c, .bool d])] w' → w'.cell? ⟨w.heap.size, 0, none⟩ = some (.int .i64 n) ∧ w'.cell? ⟨w.heap.size, 1, none⟩ = some (.bool a) ∧ w'.cell? ⟨w.heap.size, 2, none⟩ = some (.bool b) ∧ w'.cell? ⟨(w.heap.size + 1), 0, none⟩ = some (.int .i64 m) ∧ w'.cell? ⟨(w.heap.size + 1), 1, none⟩ = some (.bool c) ∧ w'.cell? ⟨(w.heap.size + 1), 2, none⟩ = some (.bool d) ∧ w'.cell? ⟨w3.heap.size, 0, none⟩ = some (.bool (seesB n)) ∧ w'.cell? ⟨w3.heap.size, 1, none⟩ = some (.bool (seenB n)) ∧ w'.cell? ⟨w3.heap.size, 2, none⟩ = some (.bool a) ∧ w'.cell? ⟨w3.heap.size, 3, none⟩ = some (.bool b) ∧ w'.cell? ⟨w4.heap.size, 0, none⟩ = some (.bool (seesB m)) ∧ w'.cell? ⟨w4.heap.size, 1, none⟩ = some (.bool (seenB m)) ∧ w'.cell? ⟨w4.heap.size, 2, none⟩ = some (.bool c) ∧ w'.cell? ⟨w4.heap.size, 3, none⟩ = some (.bool d) ∧ KB w [(w.heap.size, 23, #[.int .i64 n, .bool a, .bool b]), ((w.heap.size + 1), 23, #[.int .i64 m, .bool c, .bool d]), (w2.heap.size, 23, #[.int .i64 0, .bool false, .bool false]), ((w2.heap.size + 1), 23, #[.int .i64 0, .bool false, .bool false]), (w3.heap.size, 29, #[.bool (seesB n), .bool (seenB n), .bool a, .bool b]), (w4.heap.size, 29, #[.bool (seesB m), .bool (seenB m), .bool c, .bool d])] w') := fun w' h => ⟨(h.1 _ (List.mem_cons_self ..)).cell 0, (h.1 _ (List.mem_cons_self ..)).cell 1, (h.1 _ (List.mem_cons_self ..)).cell 2, (h.1 _ (List.mem_cons_of_mem _ (List.mem_cons_self ..))).cell 0, (h.1 _ (List.mem_cons_of_mem _ (List.mem_cons_self ..))).cell 1, (h.1 _ (List.mem_cons_of_mem _ (List.mem_cons_self ..))).cell 2, (h.1 _ (List.mem_cons_of_mem _ (List.mem_cons_of_mem _ (List.mem_cons_of_mem _ (List.mem_cons_of_mem _ (List.mem_cons_self ..)))))).cell 0, (h.1 _ (List.mem_cons_of_mem _ (List.mem_cons_of_mem _ (List.mem_cons_of_mem _ (List.mem_cons_of_mem _ (List.mem_cons_self ..)))))).cell 1, (h.1 _ (List.mem_cons_of_mem _ (List.mem_cons_of_mem _ (List.mem_cons_of_mem _ (List.mem_cons_of_mem _ (List.mem_cons_self ..)))))).cell 2, (h.1 _ (List.mem_cons_of_mem _ (List.mem_cons_of_mem _ (List.mem_cons_of_mem _ (List.mem_cons_of_mem _ (List.mem_cons_self ..)))))).cell 3, (h.1 _ (List.mem_cons_of_mem _ (List.mem_cons_of_mem _ (List.mem_cons_of_mem _ (List.mem_cons_of_mem _ (List.mem_cons_of_mem _ (List.mem_cons_self ..))))))).cell 0, (h.1 _ (List.mem_cons_of_mem _ (List.mem_cons_of_mem _ (List.mem_cons_of_mem _ (List.mem_cons_of_mem _ (List.mem_cons_of_mem _ (List.mem_cons_self ..))))))).cell 1, (h.1 _ (List.mem_cons_of_mem _ (List.mem_cons_of_mem _ (List.mem_cons_of_mem _ (List.mem_cons_of_mem _ (List.mem_cons_of_mem _ (List.mem_cons_self ..))))))).cell 2, (h.1 _ (List.mem_cons_of_mem _ (List.mem_cons_of_mem _ (List.mem_cons_of_mem _ (List.mem_cons_of_mem _ (List.mem_cons_of_mem _ (List.mem_cons_self ..))))))).cell 3, h⟩
  have Ga : Hid (∀ W w' : World, Below W.heap.size W w' → (W.cell? ⟨w.heap.size, 0, none⟩ = some (.int .i64 n) ∧ W.cell? ⟨w.heap.size, 1, none⟩ = some (.bool a) ∧ W.cell? ⟨w.heap.size, 2, none⟩ = some (.bool b) ∧ W.cell? ⟨(w.heap.size + 1), 0, none⟩ = some (.int .i64 m) ∧ W.cell? ⟨(w.heap.size + 1), 1, none⟩ = some (.bool c) ∧ W.cell? ⟨(w.heap.size + 1), 2, none⟩ = some (.bool d) ∧ W.cell? ⟨w3.heap.size, 0, none⟩ = some (.bool (seesB n)) ∧ W.cell? ⟨w3.heap.size, 1, none⟩ = some (.bool (seenB n)) ∧ W.cell? ⟨w3.heap.size, 2, none⟩ = some (.bool a) ∧ W.cell? ⟨w3.heap.size, 3, none⟩ = some (.bool b) ∧ W.cell? ⟨w4.heap.size, 0, none⟩ = some (.bool (seesB m)) ∧ W.cell? ⟨w4.heap.size, 1, none⟩ = some (.bool (seenB m)) ∧ W.cell? ⟨w4.heap.size, 2, none⟩ = some (.bool c) ∧ W.cell? ⟨w4.heap.size, 3, none⟩ = some (.bool d) ∧ KB w [(w.heap.size, 23, #[.int .i64 n, .bool a, .bool b]), ((w.heap.size + 1), 23, #[.int .i64 m, .bool c, .bool d]), (w2.heap.size, 23, #[.int .i64 0, .bool false, .bool false]), ((w2.heap.size + 1), 23, #[.int .i64 0, .bool false, .bool false]), (w3.heap.size, 29, #[.bool (seesB n), .bool (seenB n), .bool a, .bool b]), (w4.heap.size, 29, #[.bool (seesB m), .bool (seenB m), .bool c, .bool d])] W) → KB w [(w.heap.size, 23, #[.int .i64 n, .bool a, .bool b]), ((w.heap.size + 1), 23, #[.int .i64 m, .bool c, .bool d]), (w2.heap.size, 23, #[.int .i64 0, .bool false, .bool false]), ((w2.heap.size + 1), 23, #[.int .i64 0, .bool false, .bool false]), (w3.heap.size, 29, #[.bool (seesB n), .bool (seenB n), .bool a, .bool b]), (w4.heap.size, 29, #[.bool (seesB m), .bool (seenB m), .bool c, .bool d])] w') := fun W w' hb h => kb_below hb h.2.2.2.2.2.2.2.2.2.2.2.2.2.2
  have Ka : KB w [(w.heap.size, 23, #[.int .i64 n, .bool a, .bool b]), ((w.heap.size + 1), 23, #[.int .i64 m, .bool c, .bool d]), (w2.heap.size, 23, #[.int .i64 0, .bool false, .bool false]), ((w2.heap.size + 1), 23, #[.int .i64 0, .bool false, .bool false]), (w3.heap.size, 29, #[.bool (seesB n), .bool (seenB n), .bool a, .bool b]), (w4.heap.size, 29, #[.bool (seesB m), .bool (seenB m), .bool c, .bool d])] (w4.alloc (.cells #[.bool (seesB m), .bool (seenB m), .bool c, .bool d] 29)) := kb_cons (p4.alloc _) (kb_cons (q4.alloc _) (kb_cons (u4.alloc _) (kb_cons (v4.alloc _) (kb_cons (r4.alloc _) (kb_cons (Blk.new _ _ _) (kb_nil (B4.alloc B4.size _)))))))
  clear B4 p4 q4 u4 v4 r4
  go_wp2_with fail
  go_region_held3 (fun w' => w'.cell? ⟨w.heap.size, 0, none⟩ = some (.int .i64 n) ∧ w'.cell? ⟨w.heap.size, 1, none⟩ = some (.bool a) ∧ w'.cell? ⟨w.heap.size, 2, none⟩ = some (.bool b) ∧ w'.cell? ⟨(w.heap.size + 1), 0, none⟩ = some (.int .i64 m) ∧ w'.cell? ⟨(w.heap.size + 1), 1, none⟩ = some (.bool c) ∧ w'.cell? ⟨(w.heap.size + 1), 2, none⟩ = some (.bool d) ∧ w'.cell? ⟨w3.heap.size, 0, none⟩ = some (.bool (seesB n)) ∧ w'.cell? ⟨w3.heap.size, 1, none⟩ = some (.bool (seenB n)) ∧ w'.cell? ⟨w3.heap.size, 2, none⟩ = some (.bool a) ∧ w'.cell? ⟨w3.heap.size, 3, none⟩ = some (.bool b) ∧ w'.cell? ⟨w4.heap.size, 0, none⟩ = some (.bool (seesB m)) ∧ w'.cell? ⟨w4.heap.size, 1, none⟩ = some (.bool (seenB m)) ∧ w'.cell? ⟨w4.heap.size, 2, none⟩ = some (.bool c) ∧ w'.cell? ⟨w4.heap.size, 3, none⟩ = some (.bool d) ∧ KB w [(w.heap.size, 23, #[.int .i64 n, .bool a, .bool b]), ((w.heap.size + 1), 23, #[.int .i64 m, .bool c, .bool d]), (w2.heap.size, 23, #[.int .i64 0, .bool false, .bool false]), ((w2.heap.size + 1), 23, #[.int .i64 0, .bool false, .bool false]), (w3.heap.size, 29, #[.bool (seesB n), .bool (seenB n), .bool a, .bool b]), (w4.heap.size, 29, #[.bool (seesB m), .bool (seenB m), .bool c, .bool d])] w') ((refine Fa.out _ ?_; first | assumption | exact kb_dr (by assumption)))
    (first | (go_at_call 11; refine (fit_any n a b m c d _).mono ?_; rintro e w5 ⟨rfl, hb5⟩; have K5 := Ga.out _ _ hb5 (by assumption); clear hb5) | (go_at_call 12; refine (rfit_at n a b m c d _).mono ?_; rintro e w6 ⟨rfl, hb6⟩; have K6 := Ga.out _ _ hb6 (by assumption); clear hb6))
  have zu0 := (K6.1 _ (List.mem_cons_of_mem _ (List.mem_cons_of_mem _ (List.mem_cons_self ..)))).cell 0
  have zu1 := (K6.1 _ (List.mem_cons_of_mem _ (List.mem_cons_of_mem _ (List.mem_cons_self ..)))).cell 1
  have zu2 := (K6.1 _ (List.mem_cons_of_mem _ (List.mem_cons_of_mem _ (List.mem_cons_self ..)))).cell 2
  have zv0 := (K6.1 _ (List.mem_cons_of_mem _ (List.mem_cons_of_mem _ (List.mem_cons_of_mem _ (List.mem_cons_self ..))))).cell 0
  have zv1 := (K6.1 _ (List.mem_cons_of_mem _ (List.mem_cons_of_mem _ (List.mem_cons_of_mem _ (List.mem_cons_self ..))))).cell 1
  have zv2 := (K6.1 _ (List.mem_cons_of_mem _ (List.mem_cons_of_mem _ (List.mem_cons_of_mem _ (List.mem_cons_self ..))))).cell 2
  simp only [List.getElem?_toArray, List.getElem?_cons_zero, List.getElem?_cons_succ] at zu0 zu1 zu2 zv0 zv1 zv2
  go_wp2
  go_ret
  exact ⟨rfl, K6.2⟩

set_option maxRecDepth 100000 in
set_option maxHeartbeats 1000000 in
theorem pboth_i4 (n : Int) (a b : Bool) (m : Int) (c d : Bool) (act : Int) (h1 : Hid (rightB n a b = true)) (h2 : Hid (rightB m c d = true)) (h3 : 4 < act) (h3' : ¬ act < 1) (HB : Hid (∀ w : World, Calls Try.prog 9 #[S n a b, S m c d, .int .i64 act] w fun e w' => e = .returned (.tuple #[S 0 false false, S 0 false false, .int .i64 1]) ∧ Below w.heap.size w w')) (w : World) :
    Calls Try.prog 3 #[S n a b, S m c d, .int .i64 act] w fun e w' => e = .returned (.bool true) ∧ Below w.heap.size w w' := by
  go_enter Try.func3, Try.ntmps3
  go_wp2_with fail
  refine (lives_any _).mono ?_
  rintro e w1 ⟨rfl, hb1⟩
  have B1 : Below w.heap.size w w1 := ((((((Below.refl w.heap.size w)).alloc ((Below.refl w.heap.size w)).size (.cells #[.int .i64 n, .bool a, .bool b] 23))).alloc ((((Below.refl w.heap.size w)).alloc ((Below.refl w.heap.size w)).size (.cells #[.int .i64 n, .bool a, .bool b] 23))).size (.cells #[.int .i64 m, .bool c, .bool d] 23))).trans (hb1.mono ((((((Below.refl w.heap.size w)).alloc ((Below.refl w.heap.size w)).size (.cells #[.int .i64 n, .bool a, .bool b] 23))).alloc ((((Below.refl w.heap.size w)).alloc ((Below.refl w.heap.size w)).size (.cells #[.int .i64 n, .bool a, .bool b] 23))).size (.cells #[.int .i64 m, .bool c, .bool d] 23))).size)
  have p1 := ((Blk.new w 23 #[.int .i64 n, .bool a, .bool b]).alloc (.cells #[.int .i64 m, .bool c, .bool d] 23)).below hb1 ((Blk.new w 23 #[.int .i64 n, .bool a, .bool b]).alloc (.cells #[.int .i64 m, .bool c, .bool d] 23)).lt
  have q1 := (Blk.new (w.alloc (.cells #[.int .i64 n, .bool a, .bool b] 23)) 23 #[.int .i64 m, .bool c, .bool d]).below hb1 (Blk.new (w.alloc (.cells #[.int .i64 n, .bool a, .bool b] 23)) 23 #[.int .i64 m, .bool c, .bool d]).lt
  simp only [World.size_alloc] at q1
  clear hb1
  have zp0 := p1.cell 0
  have zp1 := p1.cell 1
  have zp2 := p1.cell 2
  have zq0 := q1.cell 0
  have zq1 := q1.cell 1
  have zq2 := q1.cell 2
  simp only [List.getElem?_toArray, List.getElem?_cons_zero, List.getElem?_cons_succ] at zp0 zp1 zp2 zq0 zq1 zq2
  go_wp2_with fail
  refine (HB _).mono ?_
  rintro e w2 ⟨rfl, hb2⟩
  have B2 : Below w.heap.size w w2 := (B1).trans (hb2.mono (B1).size)
  have p2 := (p1).below hb2 (p1).lt
  have q2 := (q1).below hb2 (q1).lt
  clear hb2 B1 p1 q1
  clear zp0 zp1 zp2 zq0 zq1 zq2
  have zp0 := fun o o' => ((p2.alloc o).alloc o').cell 0
  have zp1 := fun o o' => ((p2.alloc o).alloc o').cell 1
  have zp2 := fun o o' => ((p2.alloc o).alloc o').cell 2
  have zq0 := fun o o' => ((q2.alloc o).alloc o').cell 0
  have zq1 := fun o o' => ((q2.alloc o).alloc o').cell 1
  have zq2 := fun o o' => ((q2.alloc o).alloc o').cell 2
  simp only [List.getElem?_toArray, List.getElem?_cons_zero, List.getElem?_cons_succ] at zp0 zp1 zp2 zq0 zq1 zq2
  go_wp2_with fail
  refine (of_at n a b true h1 _).mono ?_
  rintro e w3 ⟨rfl, hb3⟩
  have B3 : Below w.heap.size w w3 := (((((B2).alloc (B2).size (.cells #[.int .i64 0, .bool false, .bool false] 23))).alloc (((B2).alloc (B2).size (.cells #[.int .i64 0, .bool false, .bool false] 23))).size (.cells #[.int .i64 0, .bool false, .bool false] 23))).trans (hb3.mono (((((B2).alloc (B2).size (.cells #[.int .i64 0, .bool false, .bool false] 23))).alloc (((B2).alloc (B2).size (.cells #[.int .i64 0, .bool false, .bool false] 23))).size (.cells #[.int .i64 0, .bool false, .bool false] 23))).size)
  have p3 := (((((p2).alloc (.cells #[.int .i64 0, .bool false, .bool false] 23))).alloc (.cells #[.int .i64 0, .bool false, .bool false] 23))).below hb3 (((((p2).alloc (.cells #[.int .i64 0, .bool false, .bool false] 23))).alloc (.cells #[.int .i64 0, .bool false, .bool false] 23))).lt
  have q3 := (((((q2).alloc (.cells #[.int .i64 0, .bool false, .bool false] 23))).alloc (.cells #[.int .i64 0, .bool false, .bool false] 23))).below hb3 (((((q2).alloc (.cells #[.int .i64 0, .bool false, .bool false] 23))).alloc (.cells #[.int .i64 0, .bool false, .bool false] 23))).lt
  have u3 := ((Blk.new w2 23 #[.int .i64 0, .bool false, .bool false]).alloc (.cells #[.int .i64 0, .bool false, .bool false] 23)).below hb3 ((Blk.new w2 23 #[.int .i64 0, .bool false, .bool false]).alloc (.cells #[.int .i64 0, .bool false, .bool false] 23)).lt
  have v3 := (Blk.new (w2.alloc (.cells #[.int .i64 0, .bool false, .bool false] 23)) 23 #[.int .i64 0, .bool false, .bool false]).below hb3 (Blk.new (w2.alloc (.cells #[.int .i64 0, .bool false, .bool false] 23)) 23 #[.int .i64 0, .bool false, .bool false]).lt
  simp only [World.size_alloc] at v3
  clear hb3 B2 p2 q2
  clear zp0 zp1 zp2 zq0 zq1 zq2
  have zp0 := fun o => (p3.alloc o).cell 0
  have zp1 := fun o => (p3.alloc o).cell 1
  have zp2 := fun o => (p3.alloc o).cell 2
  have zq0 := fun o => (q3.alloc o).cell 0
  have zq1 := fun o => (q3.alloc o).cell 1
  have zq2 := fun o => (q3.alloc o).cell 2
  simp only [List.getElem?_toArray, List.getElem?_cons_zero, List.getElem?_cons_succ] at zp0 zp1 zp2 zq0 zq1 zq2
  go_wp2_with fail
  refine (of_at m c d true h2 _).mono ?_
  rintro e w4 ⟨rfl, hb4⟩
  have B4 : Below w.heap.size w w4 := (((B3).alloc (B3).size (.cells #[.bool (seesB n), .bool (seenB n), .bool a, .bool b] 29))).trans (hb4.mono (((B3).alloc (B3).size (.cells #[.bool (seesB n), .bool (seenB n), .bool a, .bool b] 29))).size)
  have p4 := (((p3).alloc (.cells #[.bool (seesB n), .bool (seenB n), .bool a, .bool b] 29))).below hb4 (((p3).alloc (.cells #[.bool (seesB n), .bool (seenB n), .bool a, .bool b] 29))).lt
  have q4 := (((q3).alloc (.cells #[.bool (seesB n), .bool (seenB n), .bool a, .bool b] 29))).below hb4 (((q3).alloc (.cells #[.bool (seesB n), .bool (seenB n), .bool a, .bool b] 29))).lt
  have u4 := (((u3).alloc (.cells #[.bool (seesB n), .bool (seenB n), .bool a, .bool b] 29))).below hb4 (((u3).alloc (.cells #[.bool (seesB n), .bool (seenB n), .bool a, .bool b] 29))).lt
  have v4 := (((v3).alloc (.cells #[.bool (seesB n), .bool (seenB n), .bool a, .bool b] 29))).below hb4 (((v3).alloc (.cells #[.bool (seesB n), .bool (seenB n), .bool a, .bool b] 29))).lt
  have r4 := (Blk.new w3 29 #[.bool (seesB n), .bool (seenB n), .bool a, .bool b]).below hb4 (Blk.new w3 29 #[.bool (seesB n), .bool (seenB n), .bool a, .bool b]).lt
  clear hb4 B3 p3 q3 u3 v3
  clear zp0 zp1 zp2 zq0 zq1 zq2
  have Fa : Hid (∀ w' : World, KB w [(w.heap.size, 23, #[.int .i64 n, .bool a, .bool b]), ((w.heap.size + 1), 23, #[.int .i64 m, .bool c, .bool d]), (w2.heap.size, 23, #[.int .i64 0, .bool false, .bool false]), ((w2.heap.size + 1), 23, #[.int .i64 0, .bool false, .bool false]), (w3.heap.size, 29, #[.bool (seesB n), .bool (seenB n), .bool a, .bool b]), (w4.heap.size, 29, #[.bool (seesB m), .bool (seenB m), .bool c, .bool d])] w' → w'.cell? ⟨w.heap.size, 0, none⟩ = some (.int .i64 n) ∧ w'.cell? ⟨w.heap.size, 1, none⟩ = some (.bool a) ∧ w'.cell? ⟨w.heap.size, 2, none⟩ = some (.bool b) ∧ w'.cell? ⟨(w.heap.size + 1), 0, none⟩ = some (.int .i64 m) ∧ w'.cell? ⟨(w.heap.size + 1), 1, none⟩ = some (.bool c) ∧ w'.cell? ⟨(w.heap.size + 1), 2, none⟩ = some (.bool d) ∧ w'.cell? ⟨w3.heap.size, 0, none⟩ = some (.bool (seesB n)) ∧ w'.cell? ⟨w3.heap.size, 1, none⟩ = some (.bool (seenB n)) ∧ w'.cell? ⟨w3.heap.size, 2, none⟩ = some (.bool a) ∧ w'.cell? ⟨w3.heap.size, 3, none⟩ = some (.bool b) ∧ w'.cell? ⟨w4.heap.size, 0, none⟩ = some (.bool (seesB m)) ∧ w'.cell? ⟨w4.heap.size, 1, none⟩ = some (.bool (seenB m)) ∧ w'.cell? ⟨w4.heap.size, 2, none⟩ = some (.bool c) ∧ w'.cell? ⟨w4.heap.size, 3, none⟩ = some (.bool d) ∧ KB w [(w.heap.size, 23, #[.int .i64 n, .bool a, .bool b]), ((w.heap.size + 1), 23, #[.int .i64 m, .bool c, .bool d]), (w2.heap.size, 23, #[.int .i64 0, .bool false, .bool false]), ((w2.heap.size + 1), 23, #[.int .i64 0, .bool false, .bool false]), (w3.heap.size, 29, #[.bool (seesB n), .bool (seenB n), .bool a, .bool b]), (w4.heap.size, 29, #[.bool (seesB m), .bool (seenB m), .bool c, .bool d])] w') := fun w' h => ⟨(h.1 _ (List.mem_cons_self ..)).cell 0, (h.1 _ (List.mem_cons_self ..)).cell 1, (h.1 _ (List.mem_cons_self ..)).cell 2, (h.1 _ (List.mem_cons_of_mem _ (List.mem_cons_self ..))).cell 0, (h.1 _ (List.mem_cons_of_mem _ (List.mem_cons_self ..))).cell 1, (h.1 _ (List.mem_cons_of_mem _ (List.mem_cons_self ..))).cell 2, (h.1 _ (List.mem_cons_of_mem _ (List.mem_cons_of_mem _ (List.mem_cons_of_mem _ (List.mem_cons_of_mem _ (List.mem_cons_self ..)))))).cell 0, (h.1 _ (List.mem_cons_of_mem _ (List.mem_cons_of_mem _ (List.mem_cons_of_mem _ (List.mem_cons_of_mem _ (List.mem_cons_self ..)))))).cell 1, (h.1 _ (List.mem_cons_of_mem _ (List.mem_cons_of_mem _ (List.mem_cons_of_mem _ (List.mem_cons_of_mem _ (List.mem_cons_self ..)))))).cell 2, (h.1 _ (List.mem_cons_of_mem _ (List.mem_cons_of_mem _ (List.mem_cons_of_mem _ (List.mem_cons_of_mem _ (List.mem_cons_self ..)))))).cell 3, (h.1 _ (List.mem_cons_of_mem _ (List.mem_cons_of_mem _ (List.mem_cons_of_mem _ (List.mem_cons_of_mem _ (List.mem_cons_of_mem _ (List.mem_cons_self ..))))))).cell 0, (h.1 _ (List.mem_cons_of_mem _ (List.mem_cons_of_mem _ (List.mem_cons_of_mem _ (List.mem_cons_of_mem _ (List.mem_cons_of_mem _ (List.mem_cons_self ..))))))).cell 1, (h.1 _ (List.mem_cons_of_mem _ (List.mem_cons_of_mem _ (List.mem_cons_of_mem _ (List.mem_cons_of_mem _ (List.mem_cons_of_mem _ (List.mem_cons_self ..))))))).cell 2, (h.1 _ (List.mem_cons_of_mem _ (List.mem_cons_of_mem _ (List.mem_cons_of_mem _ (List.mem_cons_of_mem _ (List.mem_cons_of_mem _ (List.mem_cons_self ..))))))).cell 3, h⟩
  have Ga : Hid (∀ W w' : World, Below W.heap.size W w' → (W.cell? ⟨w.heap.size, 0, none⟩ = some (.int .i64 n) ∧ W.cell? ⟨w.heap.size, 1, none⟩ = some (.bool a) ∧ W.cell? ⟨w.heap.size, 2, none⟩ = some (.bool b) ∧ W.cell? ⟨(w.heap.size + 1), 0, none⟩ = some (.int .i64 m) ∧ W.cell? ⟨(w.heap.size + 1), 1, none⟩ = some (.bool c) ∧ W.cell? ⟨(w.heap.size + 1), 2, none⟩ = some (.bool d) ∧ W.cell? ⟨w3.heap.size, 0, none⟩ = some (.bool (seesB n)) ∧ W.cell? ⟨w3.heap.size, 1, none⟩ = some (.bool (seenB n)) ∧ W.cell? ⟨w3.heap.size, 2, none⟩ = some (.bool a) ∧ W.cell? ⟨w3.heap.size, 3, none⟩ = some (.bool b) ∧ W.cell? ⟨w4.heap.size, 0, none⟩ = some (.bool (seesB m)) ∧ W.cell? ⟨w4.heap.size, 1, none⟩ = some (.bool (seenB m)) ∧ W.cell? ⟨w4.heap.size, 2, none⟩ = some (.bool c) ∧ W.cell? ⟨w4.heap.size, 3, none⟩ = some (.bool d) ∧ KB w [(w.heap.size, 23, #[.int .i64 n, .bool a, .bool b]), ((w.heap.size + 1), 23, #[.int .i64 m, .bool c, .bool d]), (w2.heap.size, 23, #[.int .i64 0, .bool false, .bool false]), ((w2.heap.size + 1), 23, #[.int .i64 0, .bool false, .bool false]), (w3.heap.size, 29, #[.bool (seesB n), .bool (seenB n), .bool a, .bool b]), (w4.heap.size, 29, #[.bool (seesB m), .bool (seenB m), .bool c, .bool d])] W) → KB w [(w.heap.size, 23, #[.int .i64 n, .bool a, .bool b]), ((w.heap.size + 1), 23, #[.int .i64 m, .bool c, .bool d]), (w2.heap.size, 23, #[.int .i64 0, .bool false, .bool false]), ((w2.heap.size + 1), 23, #[.int .i64 0, .bool false, .bool false]), (w3.heap.size, 29, #[.bool (seesB n), .bool (seenB n), .bool a, .bool b]), (w4.heap.size, 29, #[.bool (seesB m), .bool (seenB m), .bool c, .bool d])] w') := fun W w' hb h => kb_below hb h.2.2.2.2.2.2.2.2.2.2.2.2.2.2
  have Ka : KB w [(w.heap.size, 23, #[.int .i64 n, .bool a, .bool b]), ((w.heap.size + 1), 23, #[.int .i64 m, .bool c, .bool d]), (w2.heap.size, 23, #[.int .i64 0, .bool false, .bool false]), ((w2.heap.size + 1), 23, #[.int .i64 0, .bool false, .bool false]), (w3.heap.size, 29, #[.bool (seesB n), .bool (seenB n), .bool a, .bool b]), (w4.heap.size, 29, #[.bool (seesB m), .bool (seenB m), .bool c, .bool d])] (w4.alloc (.cells #[.bool (seesB m), .bool (seenB m), .bool c, .bool d] 29)) := kb_cons (p4.alloc _) (kb_cons (q4.alloc _) (kb_cons (u4.alloc _) (kb_cons (v4.alloc _) (kb_cons (r4.alloc _) (kb_cons (Blk.new _ _ _) (kb_nil (B4.alloc B4.size _)))))))
  clear B4 p4 q4 u4 v4 r4
  go_wp2_with fail
  go_region_held3 (fun w' => w'.cell? ⟨w.heap.size, 0, none⟩ = some (.int .i64 n) ∧ w'.cell? ⟨w.heap.size, 1, none⟩ = some (.bool a) ∧ w'.cell? ⟨w.heap.size, 2, none⟩ = some (.bool b) ∧ w'.cell? ⟨(w.heap.size + 1), 0, none⟩ = some (.int .i64 m) ∧ w'.cell? ⟨(w.heap.size + 1), 1, none⟩ = some (.bool c) ∧ w'.cell? ⟨(w.heap.size + 1), 2, none⟩ = some (.bool d) ∧ w'.cell? ⟨w3.heap.size, 0, none⟩ = some (.bool (seesB n)) ∧ w'.cell? ⟨w3.heap.size, 1, none⟩ = some (.bool (seenB n)) ∧ w'.cell? ⟨w3.heap.size, 2, none⟩ = some (.bool a) ∧ w'.cell? ⟨w3.heap.size, 3, none⟩ = some (.bool b) ∧ w'.cell? ⟨w4.heap.size, 0, none⟩ = some (.bool (seesB m)) ∧ w'.cell? ⟨w4.heap.size, 1, none⟩ = some (.bool (seenB m)) ∧ w'.cell? ⟨w4.heap.size, 2, none⟩ = some (.bool c) ∧ w'.cell? ⟨w4.heap.size, 3, none⟩ = some (.bool d) ∧ KB w [(w.heap.size, 23, #[.int .i64 n, .bool a, .bool b]), ((w.heap.size + 1), 23, #[.int .i64 m, .bool c, .bool d]), (w2.heap.size, 23, #[.int .i64 0, .bool false, .bool false]), ((w2.heap.size + 1), 23, #[.int .i64 0, .bool false, .bool false]), (w3.heap.size, 29, #[.bool (seesB n), .bool (seenB n), .bool a, .bool b]), (w4.heap.size, 29, #[.bool (seesB m), .bool (seenB m), .bool c, .bool d])] w') ((refine Fa.out _ ?_; first | assumption | exact kb_dr (by assumption)))
    (first | (go_at_call 11; refine (fit_any n a b m c d _).mono ?_; rintro e w5 ⟨rfl, hb5⟩; have K5 := Ga.out _ _ hb5 (by assumption); clear hb5) | (go_at_call 12; refine (rfit_at n a b m c d _).mono ?_; rintro e w6 ⟨rfl, hb6⟩; have K6 := Ga.out _ _ hb6 (by assumption); clear hb6))
  have zu0 := (K6.1 _ (List.mem_cons_of_mem _ (List.mem_cons_of_mem _ (List.mem_cons_self ..)))).cell 0
  have zu1 := (K6.1 _ (List.mem_cons_of_mem _ (List.mem_cons_of_mem _ (List.mem_cons_self ..)))).cell 1
  have zu2 := (K6.1 _ (List.mem_cons_of_mem _ (List.mem_cons_of_mem _ (List.mem_cons_self ..)))).cell 2
  have zv0 := (K6.1 _ (List.mem_cons_of_mem _ (List.mem_cons_of_mem _ (List.mem_cons_of_mem _ (List.mem_cons_self ..))))).cell 0
  have zv1 := (K6.1 _ (List.mem_cons_of_mem _ (List.mem_cons_of_mem _ (List.mem_cons_of_mem _ (List.mem_cons_self ..))))).cell 1
  have zv2 := (K6.1 _ (List.mem_cons_of_mem _ (List.mem_cons_of_mem _ (List.mem_cons_of_mem _ (List.mem_cons_self ..))))).cell 2
  simp only [List.getElem?_toArray, List.getElem?_cons_zero, List.getElem?_cons_succ] at zu0 zu1 zu2 zv0 zv1 zv2
  go_wp2
  go_ret
  exact ⟨rfl, K6.2⟩

set_option maxRecDepth 100000 in
set_option maxHeartbeats 2000000 in
theorem pboth_ok (n : Int) (a b : Bool) (m : Int) (c d : Bool) (act : Int) (xn : Int) (xa xb : Bool) (yn : Int) (ya yb : Bool) (h1 : Hid (rightB n a b = true)) (h2 : Hid (rightB m c d = true)) (h3 : ¬ act < 1) (h4 : ¬ 4 < act) (h5 : Hid (rightB xn xa xb = true)) (h6 : Hid (rightB yn ya yb = true))
    (HB : Hid (∀ w : World, Calls Try.prog 9 #[S n a b, S m c d, .int .i64 act] w fun e w' => e = .returned (.tuple #[S xn xa xb, S yn ya yb, .int .i64 0]) ∧ Below w.heap.size w w'))
    (HR : Hid (∀ w : World, Calls Try.prog 13 #[R4 (seesB n) (seenB n) a b, R4 (seesB m) (seenB m) c d, .int .i64 act] w fun e w' => e = .returned (.tuple #[R4 (seesB xn) (seenB xn) xa xb, R4 (seesB yn) (seenB yn) ya yb]) ∧ Below w.heap.size w w')) (w : World) :
    Calls Try.prog 3 #[S n a b, S m c d, .int .i64 act] w fun e w' => e = .returned (.bool true) ∧ Below w.heap.size w w' := by
  go_enter Try.func3, Try.ntmps3
  go_wp2_with fail
  refine (lives_any _).mono ?_
  rintro e w1 ⟨rfl, hb1⟩
  have B1 : Below w.heap.size w w1 := ((((((Below.refl w.heap.size w)).alloc ((Below.refl w.heap.size w)).size (.cells #[.int .i64 n, .bool a, .bool b] 23))).alloc ((((Below.refl w.heap.size w)).alloc ((Below.refl w.heap.size w)).size (.cells #[.int .i64 n, .bool a, .bool b] 23))).size (.cells #[.int .i64 m, .bool c, .bool d] 23))).trans (hb1.mono ((((((Below.refl w.heap.size w)).alloc ((Below.refl w.heap.size w)).size (.cells #[.int .i64 n, .bool a, .bool b] 23))).alloc ((((Below.refl w.heap.size w)).alloc ((Below.refl w.heap.size w)).size (.cells #[.int .i64 n, .bool a, .bool b] 23))).size (.cells #[.int .i64 m, .bool c, .bool d] 23))).size)
  have p1 := ((Blk.new w 23 #[.int .i64 n, .bool a, .bool b]).alloc (.cells #[.int .i64 m, .bool c, .bool d] 23)).below hb1 ((Blk.new w 23 #[.int .i64 n, .bool a, .bool b]).alloc (.cells #[.int .i64 m, .bool c, .bool d] 23)).lt
  have q1 := (Blk.new (w.alloc (.cells #[.int .i64 n, .bool a, .bool b] 23)) 23 #[.int .i64 m, .bool c, .bool d]).below hb1 (Blk.new (w.alloc (.cells #[.int .i64 n, .bool a, .bool b] 23)) 23 #[.int .i64 m, .bool c, .bool d]).lt
  simp only [World.size_alloc] at q1
  clear hb1
  have zp0 := p1.cell 0
  have zp1 := p1.cell 1
  have zp2 := p1.cell 2
  have zq0 := q1.cell 0
  have zq1 := q1.cell 1
  have zq2 := q1.cell 2
  simp only [List.getElem?_toArray, List.getElem?_cons_zero, List.getElem?_cons_succ] at zp0 zp1 zp2 zq0 zq1 zq2
  go_wp2_with fail
  refine (HB _).mono ?_
  rintro e w2 ⟨rfl, hb2⟩
  have B2 : Below w.heap.size w w2 := (B1).trans (hb2.mono (B1).size)
  have p2 := (p1).below hb2 (p1).lt
  have q2 := (q1).below hb2 (q1).lt
  clear hb2 B1 p1 q1
  clear zp0 zp1 zp2 zq0 zq1 zq2
  have zp0 := fun o o' => ((p2.alloc o).alloc o').cell 0
  have zp1 := fun o o' => ((p2.alloc o).alloc o').cell 1
  have zp2 := fun o o' => ((p2.alloc o).alloc o').cell 2
  have zq0 := fun o o' => ((q2.alloc o).alloc o').cell 0
  have zq1 := fun o o' => ((q2.alloc o).alloc o').cell 1
  have zq2 := fun o o' => ((q2.alloc o).alloc o').cell 2
  simp only [List.getElem?_toArray, List.getElem?_cons_zero, List.getElem?_cons_succ] at zp0 zp1 zp2 zq0 zq1 zq2
  go_wp2_with fail
  refine (of_at n a b true h1 _).mono ?_
  rintro e w3 ⟨rfl, hb3⟩
  have B3 : Below w.heap.size w w3 := (((((B2).alloc (B2).size (.cells #[.int .i64 xn, .bool xa, .bool xb] 23))).alloc (((B2).alloc (B2).size (.cells #[.int .i64 xn, .bool xa, .bool xb] 23))).size (.cells #[.int .i64 yn, .bool ya, .bool yb] 23))).trans (hb3.mono (((((B2).alloc (B2).size (.cells #[.int .i64 xn, .bool xa, .bool xb] 23))).alloc (((B2).alloc (B2).size (.cells #[.int .i64 xn, .bool xa, .bool xb] 23))).size (.cells #[.int .i64 yn, .bool ya, .bool yb] 23))).size)
  have p3 := (((((p2).alloc (.cells #[.int .i64 xn, .bool xa, .bool xb] 23))).alloc (.cells #[.int .i64 yn, .bool ya, .bool yb] 23))).below hb3 (((((p2).alloc (.cells #[.int .i64 xn, .bool xa, .bool xb] 23))).alloc (.cells #[.int .i64 yn, .bool ya, .bool yb] 23))).lt
  have q3 := (((((q2).alloc (.cells #[.int .i64 xn, .bool xa, .bool xb] 23))).alloc (.cells #[.int .i64 yn, .bool ya, .bool yb] 23))).below hb3 (((((q2).alloc (.cells #[.int .i64 xn, .bool xa, .bool xb] 23))).alloc (.cells #[.int .i64 yn, .bool ya, .bool yb] 23))).lt
  have u3 := ((Blk.new w2 23 #[.int .i64 xn, .bool xa, .bool xb]).alloc (.cells #[.int .i64 yn, .bool ya, .bool yb] 23)).below hb3 ((Blk.new w2 23 #[.int .i64 xn, .bool xa, .bool xb]).alloc (.cells #[.int .i64 yn, .bool ya, .bool yb] 23)).lt
  have v3 := (Blk.new (w2.alloc (.cells #[.int .i64 xn, .bool xa, .bool xb] 23)) 23 #[.int .i64 yn, .bool ya, .bool yb]).below hb3 (Blk.new (w2.alloc (.cells #[.int .i64 xn, .bool xa, .bool xb] 23)) 23 #[.int .i64 yn, .bool ya, .bool yb]).lt
  simp only [World.size_alloc] at v3
  clear hb3 B2 p2 q2
  clear zp0 zp1 zp2 zq0 zq1 zq2
  have zp0 := fun o => (p3.alloc o).cell 0
  have zp1 := fun o => (p3.alloc o).cell 1
  have zp2 := fun o => (p3.alloc o).cell 2
  have zq0 := fun o => (q3.alloc o).cell 0
  have zq1 := fun o => (q3.alloc o).cell 1
  have zq2 := fun o => (q3.alloc o).cell 2
  simp only [List.getElem?_toArray, List.getElem?_cons_zero, List.getElem?_cons_succ] at zp0 zp1 zp2 zq0 zq1 zq2
  go_wp2_with fail
  refine (of_at m c d true h2 _).mono ?_
  rintro e w4 ⟨rfl, hb4⟩
  have B4 : Below w.heap.size w w4 := (((B3).alloc (B3).size (.cells #[.bool (seesB n), .bool (seenB n), .bool a, .bool b] 29))).trans (hb4.mono (((B3).alloc (B3).size (.cells #[.bool (seesB n), .bool (seenB n), .bool a, .bool b] 29))).size)
  have p4 := (((p3).alloc (.cells #[.bool (seesB n), .bool (seenB n), .bool a, .bool b] 29))).below hb4 (((p3).alloc (.cells #[.bool (seesB n), .bool (seenB n), .bool a, .bool b] 29))).lt
  have q4 := (((q3).alloc (.cells #[.bool (seesB n), .bool (seenB n), .bool a, .bool b] 29))).below hb4 (((q3).alloc (.cells #[.bool (seesB n), .bool (seenB n), .bool a, .bool b] 29))).lt
  have u4 := (((u3).alloc (.cells #[.bool (seesB n), .bool (seenB n), .bool a, .bool b] 29))).below hb4 (((u3).alloc (.cells #[.bool (seesB n), .bool (seenB n), .bool a, .bool b] 29))).lt
  have v4 := (((v3).alloc (.cells #[.bool (seesB n), .bool (seenB n), .bool a, .bool b] 29))).below hb4 (((v3).alloc (.cells #[.bool (seesB n), .bool (seenB n), .bool a, .bool b] 29))).lt
  have r4 := (Blk.new w3 29 #[.bool (seesB n), .bool (seenB n), .bool a, .bool b]).below hb4 (Blk.new w3 29 #[.bool (seesB n), .bool (seenB n), .bool a, .bool b]).lt
  clear hb4 B3 p3 q3 u3 v3
  clear zp0 zp1 zp2 zq0 zq1 zq2
  have Fa : Hid (∀ w' : World, KB w [(w.heap.size, 23, #[.int .i64 n, .bool a, .bool b]), ((w.heap.size + 1), 23, #[.int .i64 m, .bool c, .bool d]), (w2.heap.size, 23, #[.int .i64 xn, .bool xa, .bool xb]), ((w2.heap.size + 1), 23, #[.int .i64 yn, .bool ya, .bool yb]), (w3.heap.size, 29, #[.bool (seesB n), .bool (seenB n), .bool a, .bool b]), (w4.heap.size, 29, #[.bool (seesB m), .bool (seenB m), .bool c, .bool d])] w' → w'.cell? ⟨w.heap.size, 0, none⟩ = some (.int .i64 n) ∧ w'.cell? ⟨w.heap.size, 1, none⟩ = some (.bool a) ∧ w'.cell? ⟨w.heap.size, 2, none⟩ = some (.bool b) ∧ w'.cell? ⟨(w.heap.size + 1), 0, none⟩ = some (.int .i64 m) ∧ w'.cell? ⟨(w.heap.size + 1), 1, none⟩ = some (.bool c) ∧ w'.cell? ⟨(w.heap.size + 1), 2, none⟩ = some (.bool d) ∧ w'.cell? ⟨w3.heap.size, 0, none⟩ = some (.bool (seesB n)) ∧ w'.cell? ⟨w3.heap.size, 1, none⟩ = some (.bool (seenB n)) ∧ w'.cell? ⟨w3.heap.size, 2, none⟩ = some (.bool a) ∧ w'.cell? ⟨w3.heap.size, 3, none⟩ = some (.bool b) ∧ w'.cell? ⟨w4.heap.size, 0, none⟩ = some (.bool (seesB m)) ∧ w'.cell? ⟨w4.heap.size, 1, none⟩ = some (.bool (seenB m)) ∧ w'.cell? ⟨w4.heap.size, 2, none⟩ = some (.bool c) ∧ w'.cell? ⟨w4.heap.size, 3, none⟩ = some (.bool d) ∧ KB w [(w.heap.size, 23, #[.int .i64 n, .bool a, .bool b]), ((w.heap.size + 1), 23, #[.int .i64 m, .bool c, .bool d]), (w2.heap.size, 23, #[.int .i64 xn, .bool xa, .bool xb]), ((w2.heap.size + 1), 23, #[.int .i64 yn, .bool ya, .bool yb]), (w3.heap.size, 29, #[.bool (seesB n), .bool (seenB n), .bool a, .bool b]), (w4.heap.size, 29, #[.bool (seesB m), .bool (seenB m), .bool c, .bool d])] w') := fun w' h => ⟨(h.1 _ (List.mem_cons_self ..)).cell 0, (h.1 _ (List.mem_cons_self ..)).cell 1, (h.1 _ (List.mem_cons_self ..)).cell 2, (h.1 _ (List.mem_cons_of_mem _ (List.mem_cons_self ..))).cell 0, (h.1 _ (List.mem_cons_of_mem _ (List.mem_cons_self ..))).cell 1, (h.1 _ (List.mem_cons_of_mem _ (List.mem_cons_self ..))).cell 2, (h.1 _ (List.mem_cons_of_mem _ (List.mem_cons_of_mem _ (List.mem_cons_of_mem _ (List.mem_cons_of_mem _ (List.mem_cons_self ..)))))).cell 0, (h.1 _ (List.mem_cons_of_mem _ (List.mem_cons_of_mem _ (List.mem_cons_of_mem _ (List.mem_cons_of_mem _ (List.mem_cons_self ..)))))).cell 1, (h.1 _ (List.mem_cons_of_mem _ (List.mem_cons_of_mem _ (List.mem_cons_of_mem _ (List.mem_cons_of_mem _ (List.mem_cons_self ..)))))).cell 2, (h.1 _ (List.mem_cons_of_mem _ (List.mem_cons_of_mem _ (List.mem_cons_of_mem _ (List.mem_cons_of_mem _ (List.mem_cons_self ..)))))).cell 3, (h.1 _ (List.mem_cons_of_mem _ (List.mem_cons_of_mem _ (List.mem_cons_of_mem _ (List.mem_cons_of_mem _ (List.mem_cons_of_mem _ (List.mem_cons_self ..))))))).cell 0, (h.1 _ (List.mem_cons_of_mem _ (List.mem_cons_of_mem _ (List.mem_cons_of_mem _ (List.mem_cons_of_mem _ (List.mem_cons_of_mem _ (List.mem_cons_self ..))))))).cell 1, (h.1 _ (List.mem_cons_of_mem _ (List.mem_cons_of_mem _ (List.mem_cons_of_mem _ (List.mem_cons_of_mem _ (List.mem_cons_of_mem _ (List.mem_cons_self ..))))))).cell 2, (h.1 _ (List.mem_cons_of_mem _ (List.mem_cons_of_mem _ (List.mem_cons_of_mem _ (List.mem_cons_of_mem _ (List.mem_cons_of_mem _ (List.mem_cons_self ..))))))).cell 3, h⟩
  have Ga : Hid (∀ W w' : World, Below W.heap.size W w' → (W.cell? ⟨w.heap.size, 0, none⟩ = some (.int .i64 n) ∧ W.cell? ⟨w.heap.size, 1, none⟩ = some (.bool a) ∧ W.cell? ⟨w.heap.size, 2, none⟩ = some (.bool b) ∧ W.cell? ⟨(w.heap.size + 1), 0, none⟩ = some (.int .i64 m) ∧ W.cell? ⟨(w.heap.size + 1), 1, none⟩ = some (.bool c) ∧ W.cell? ⟨(w.heap.size + 1), 2, none⟩ = some (.bool d) ∧ W.cell? ⟨w3.heap.size, 0, none⟩ = some (.bool (seesB n)) ∧ W.cell? ⟨w3.heap.size, 1, none⟩ = some (.bool (seenB n)) ∧ W.cell? ⟨w3.heap.size, 2, none⟩ = some (.bool a) ∧ W.cell? ⟨w3.heap.size, 3, none⟩ = some (.bool b) ∧ W.cell? ⟨w4.heap.size, 0, none⟩ = some (.bool (seesB m)) ∧ W.cell? ⟨w4.heap.size, 1, none⟩ = some (.bool (seenB m)) ∧ W.cell? ⟨w4.heap.size, 2, none⟩ = some (.bool c) ∧ W.cell? ⟨w4.heap.size, 3, none⟩ = some (.bool d) ∧ KB w [(w.heap.size, 23, #[.int .i64 n, .bool a, .bool b]), ((w.heap.size + 1), 23, #[.int .i64 m, .bool c, .bool d]), (w2.heap.size, 23, #[.int .i64 xn, .bool xa, .bool xb]), ((w2.heap.size + 1), 23, #[.int .i64 yn, .bool ya, .bool yb]), (w3.heap.size, 29, #[.bool (seesB n), .bool (seenB n), .bool a, .bool b]), (w4.heap.size, 29, #[.bool (seesB m), .bool (seenB m), .bool c, .bool d])] W) → KB w [(w.heap.size, 23, #[.int .i64 n, .bool a, .bool b]), ((w.heap.size + 1), 23, #[.int .i64 m, .bool c, .bool d]), (w2.heap.size, 23, #[.int .i64 xn, .bool xa, .bool xb]), ((w2.heap.size + 1), 23, #[.int .i64 yn, .bool ya, .bool yb]), (w3.heap.size, 29, #[.bool (seesB n), .bool (seenB n), .bool a, .bool b]), (w4.heap.size, 29, #[.bool (seesB m), .bool (seenB m), .bool c, .bool d])] w') := fun W w' hb h => kb_below hb h.2.2.2.2.2.2.2.2.2.2.2.2.2.2
  have Ka : KB w [(w.heap.size, 23, #[.int .i64 n, .bool a, .bool b]), ((w.heap.size + 1), 23, #[.int .i64 m, .bool c, .bool d]), (w2.heap.size, 23, #[.int .i64 xn, .bool xa, .bool xb]), ((w2.heap.size + 1), 23, #[.int .i64 yn, .bool ya, .bool yb]), (w3.heap.size, 29, #[.bool (seesB n), .bool (seenB n), .bool a, .bool b]), (w4.heap.size, 29, #[.bool (seesB m), .bool (seenB m), .bool c, .bool d])] (w4.alloc (.cells #[.bool (seesB m), .bool (seenB m), .bool c, .bool d] 29)) := kb_cons (p4.alloc _) (kb_cons (q4.alloc _) (kb_cons (u4.alloc _) (kb_cons (v4.alloc _) (kb_cons (r4.alloc _) (kb_cons (Blk.new _ _ _) (kb_nil (B4.alloc B4.size _)))))))
  clear B4 p4 q4 u4 v4 r4
  go_wp2_with fail
  go_region_held3 (fun w' => w'.cell? ⟨w.heap.size, 0, none⟩ = some (.int .i64 n) ∧ w'.cell? ⟨w.heap.size, 1, none⟩ = some (.bool a) ∧ w'.cell? ⟨w.heap.size, 2, none⟩ = some (.bool b) ∧ w'.cell? ⟨(w.heap.size + 1), 0, none⟩ = some (.int .i64 m) ∧ w'.cell? ⟨(w.heap.size + 1), 1, none⟩ = some (.bool c) ∧ w'.cell? ⟨(w.heap.size + 1), 2, none⟩ = some (.bool d) ∧ w'.cell? ⟨w3.heap.size, 0, none⟩ = some (.bool (seesB n)) ∧ w'.cell? ⟨w3.heap.size, 1, none⟩ = some (.bool (seenB n)) ∧ w'.cell? ⟨w3.heap.size, 2, none⟩ = some (.bool a) ∧ w'.cell? ⟨w3.heap.size, 3, none⟩ = some (.bool b) ∧ w'.cell? ⟨w4.heap.size, 0, none⟩ = some (.bool (seesB m)) ∧ w'.cell? ⟨w4.heap.size, 1, none⟩ = some (.bool (seenB m)) ∧ w'.cell? ⟨w4.heap.size, 2, none⟩ = some (.bool c) ∧ w'.cell? ⟨w4.heap.size, 3, none⟩ = some (.bool d) ∧ KB w [(w.heap.size, 23, #[.int .i64 n, .bool a, .bool b]), ((w.heap.size + 1), 23, #[.int .i64 m, .bool c, .bool d]), (w2.heap.size, 23, #[.int .i64 xn, .bool xa, .bool xb]), ((w2.heap.size + 1), 23, #[.int .i64 yn, .bool ya, .bool yb]), (w3.heap.size, 29, #[.bool (seesB n), .bool (seenB n), .bool a, .bool b]), (w4.heap.size, 29, #[.bool (seesB m), .bool (seenB m), .bool c, .bool d])] w') ((refine Fa.out _ ?_; first | assumption | exact kb_dr (by assumption)))
    (first | (go_at_call 11; refine (fit_any n a b m c d _).mono ?_; rintro e w5 ⟨rfl, hb5⟩; have K5 := Ga.out _ _ hb5 (by assumption); clear hb5) | (go_at_call 12; refine (rfit_at n a b m c d _).mono ?_; rintro e w6 ⟨rfl, hb6⟩; have K6 := Ga.out _ _ hb6 (by assumption); clear hb6))
  have zu0 := (K6.1 _ (List.mem_cons_of_mem _ (List.mem_cons_of_mem _ (List.mem_cons_self ..)))).cell 0
  have zu1 := (K6.1 _ (List.mem_cons_of_mem _ (List.mem_cons_of_mem _ (List.mem_cons_self ..)))).cell 1
  have zu2 := (K6.1 _ (List.mem_cons_of_mem _ (List.mem_cons_of_mem _ (List.mem_cons_self ..)))).cell 2
  have zv0 := (K6.1 _ (List.mem_cons_of_mem _ (List.mem_cons_of_mem _ (List.mem_cons_of_mem _ (List.mem_cons_self ..))))).cell 0
  have zv1 := (K6.1 _ (List.mem_cons_of_mem _ (List.mem_cons_of_mem _ (List.mem_cons_of_mem _ (List.mem_cons_self ..))))).cell 1
  have zv2 := (K6.1 _ (List.mem_cons_of_mem _ (List.mem_cons_of_mem _ (List.mem_cons_of_mem _ (List.mem_cons_self ..))))).cell 2
  have zr0 := (K6.1 _ (List.mem_cons_of_mem _ (List.mem_cons_of_mem _ (List.mem_cons_of_mem _ (List.mem_cons_of_mem _ (List.mem_cons_self ..)))))).cell 0
  have zr1 := (K6.1 _ (List.mem_cons_of_mem _ (List.mem_cons_of_mem _ (List.mem_cons_of_mem _ (List.mem_cons_of_mem _ (List.mem_cons_self ..)))))).cell 1
  have zr2 := (K6.1 _ (List.mem_cons_of_mem _ (List.mem_cons_of_mem _ (List.mem_cons_of_mem _ (List.mem_cons_of_mem _ (List.mem_cons_self ..)))))).cell 2
  have zr3 := (K6.1 _ (List.mem_cons_of_mem _ (List.mem_cons_of_mem _ (List.mem_cons_of_mem _ (List.mem_cons_of_mem _ (List.mem_cons_self ..)))))).cell 3
  have zs0 := (K6.1 _ (List.mem_cons_of_mem _ (List.mem_cons_of_mem _ (List.mem_cons_of_mem _ (List.mem_cons_of_mem _ (List.mem_cons_of_mem _ (List.mem_cons_self ..))))))).cell 0
  have zs1 := (K6.1 _ (List.mem_cons_of_mem _ (List.mem_cons_of_mem _ (List.mem_cons_of_mem _ (List.mem_cons_of_mem _ (List.mem_cons_of_mem _ (List.mem_cons_self ..))))))).cell 1
  have zs2 := (K6.1 _ (List.mem_cons_of_mem _ (List.mem_cons_of_mem _ (List.mem_cons_of_mem _ (List.mem_cons_of_mem _ (List.mem_cons_of_mem _ (List.mem_cons_self ..))))))).cell 2
  have zs3 := (K6.1 _ (List.mem_cons_of_mem _ (List.mem_cons_of_mem _ (List.mem_cons_of_mem _ (List.mem_cons_of_mem _ (List.mem_cons_of_mem _ (List.mem_cons_self ..))))))).cell 3
  simp only [List.getElem?_toArray, List.getElem?_cons_zero, List.getElem?_cons_succ] at zu0 zu1 zu2 zv0 zv1 zv2 zr0 zr1 zr2 zr3 zs0 zs1 zs2 zs3
  go_wp2_with fail
  refine (HR _).mono ?_
  rintro e w7 ⟨rfl, hb7⟩
  have K7 := kb_below hb7 K6
  clear hb7 zu0 zu1 zu2 zv0 zv1 zv2 zr0 zr1 zr2 zr3 zs0 zs1 zs2 zs3
  have b8 := Blk.new (w7.alloc (.cells #[.bool (seesB xn), .bool (seenB xn), .bool xa, .bool xb] 29)) 29 #[.bool (seesB yn), .bool (seenB yn), .bool ya, .bool yb]
  simp only [World.size_alloc] at b8
  have Fb : Hid (∀ w' : World, KB w [(w2.heap.size, 23, #[.int .i64 xn, .bool xa, .bool xb]), ((w2.heap.size + 1), 23, #[.int .i64 yn, .bool ya, .bool yb]), (w7.heap.size, 29, #[.bool (seesB xn), .bool (seenB xn), .bool xa, .bool xb]), ((w7.heap.size + 1), 29, #[.bool (seesB yn), .bool (seenB yn), .bool ya, .bool yb])] w' → w'.cell? ⟨w2.heap.size, 0, none⟩ = some (.int .i64 xn) ∧ w'.cell? ⟨w2.heap.size, 1, none⟩ = some (.bool xa) ∧ w'.cell? ⟨w2.heap.size, 2, none⟩ = some (.bool xb) ∧ w'.cell? ⟨(w2.heap.size + 1), 0, none⟩ = some (.int .i64 yn) ∧ w'.cell? ⟨(w2.heap.size + 1), 1, none⟩ = some (.bool ya) ∧ w'.cell? ⟨(w2.heap.size + 1), 2, none⟩ = some (.bool yb) ∧ w'.cell? ⟨w7.heap.size, 0, none⟩ = some (.bool (seesB xn)) ∧ w'.cell? ⟨w7.heap.size, 1, none⟩ = some (.bool (seenB xn)) ∧ w'.cell? ⟨w7.heap.size, 2, none⟩ = some (.bool xa) ∧ w'.cell? ⟨w7.heap.size, 3, none⟩ = some (.bool xb) ∧ w'.cell? ⟨(w7.heap.size + 1), 0, none⟩ = some (.bool (seesB yn)) ∧ w'.cell? ⟨(w7.heap.size + 1), 1, none⟩ = some (.bool (seenB yn)) ∧ w'.cell? ⟨(w7.heap.size + 1), 2, none⟩ = some (.bool ya) ∧ w'.cell? ⟨(w7.heap.size + 1), 3, none⟩ = some (.bool yb) ∧ KB w [(w2.heap.size, 23, #[.int .i64 xn, .bool xa, .bool xb]), ((w2.heap.size + 1), 23, #[.int .i64 yn, .bool ya, .bool yb]), (w7.heap.size, 29, #[.bool (seesB xn), .bool (seenB xn), .bool xa, .bool xb]), ((w7.heap.size + 1), 29, #[.bool (seesB yn), .bool (seenB yn), .bool ya, .bool yb])] w') := fun w' h => ⟨(h.1 _ (List.mem_cons_self ..)).cell 0, (h.1 _ (List.mem_cons_self ..)).cell 1, (h.1 _ (List.mem_cons_self ..)).cell 2, (h.1 _ (List.mem_cons_of_mem _ (List.mem_cons_self ..))).cell 0, (h.1 _ (List.mem_cons_of_mem _ (List.mem_cons_self ..))).cell 1, (h.1 _ (List.mem_cons_of_mem _ (List.mem_cons_self ..))).cell 2, (h.1 _ (List.mem_cons_of_mem _ (List.mem_cons_of_mem _ (List.mem_cons_self ..)))).cell 0, (h.1 _ (List.mem_cons_of_mem _ (List.mem_cons_of_mem _ (List.mem_cons_self ..)))).cell 1, (h.1 _ (List.mem_cons_of_mem _ (List.mem_cons_of_mem _ (List.mem_cons_self ..)))).cell 2, (h.1 _ (List.mem_cons_of_mem _ (List.mem_cons_of_mem _ (List.mem_cons_self ..)))).cell 3, (h.1 _ (List.mem_cons_of_mem _ (List.mem_cons_of_mem _ (List.mem_cons_of_mem _ (List.mem_cons_self ..))))).cell 0, (h.1 _ (List.mem_cons_of_mem _ (List.mem_cons_of_mem _ (List.mem_cons_of_mem _ (List.mem_cons_self ..))))).cell 1, (h.1 _ (List.mem_cons_of_mem _ (List.mem_cons_of_mem _ (List.mem_cons_of_mem _ (List.mem_cons_self ..))))).cell 2, (h.1 _ (List.mem_cons_of_mem _ (List.mem_cons_of_mem _ (List.mem_cons_of_mem _ (List.mem_cons_self ..))))).cell 3, h⟩
  have Gb : Hid (∀ W w' : World, Below W.heap.size W w' → (W.cell? ⟨w2.heap.size, 0, none⟩ = some (.int .i64 xn) ∧ W.cell? ⟨w2.heap.size, 1, none⟩ = some (.bool xa) ∧ W.cell? ⟨w2.heap.size, 2, none⟩ = some (.bool xb) ∧ W.cell? ⟨(w2.heap.size + 1), 0, none⟩ = some (.int .i64 yn) ∧ W.cell? ⟨(w2.heap.size + 1), 1, none⟩ = some (.bool ya) ∧ W.cell? ⟨(w2.heap.size + 1), 2, none⟩ = some (.bool yb) ∧ W.cell? ⟨w7.heap.size, 0, none⟩ = some (.bool (seesB xn)) ∧ W.cell? ⟨w7.heap.size, 1, none⟩ = some (.bool (seenB xn)) ∧ W.cell? ⟨w7.heap.size, 2, none⟩ = some (.bool xa) ∧ W.cell? ⟨w7.heap.size, 3, none⟩ = some (.bool xb) ∧ W.cell? ⟨(w7.heap.size + 1), 0, none⟩ = some (.bool (seesB yn)) ∧ W.cell? ⟨(w7.heap.size + 1), 1, none⟩ = some (.bool (seenB yn)) ∧ W.cell? ⟨(w7.heap.size + 1), 2, none⟩ = some (.bool ya) ∧ W.cell? ⟨(w7.heap.size + 1), 3, none⟩ = some (.bool yb) ∧ KB w [(w2.heap.size, 23, #[.int .i64 xn, .bool xa, .bool xb]), ((w2.heap.size + 1), 23, #[.int .i64 yn, .bool ya, .bool yb]), (w7.heap.size, 29, #[.bool (seesB xn), .bool (seenB xn), .bool xa, .bool xb]), ((w7.heap.size + 1), 29, #[.bool (seesB yn), .bool (seenB yn), .bool ya, .bool yb])] W) → KB w [(w2.heap.size, 23, #[.int .i64 xn, .bool xa, .bool xb]), ((w2.heap.size + 1), 23, #[.int .i64 yn, .bool ya, .bool yb]), (w7.heap.size, 29, #[.bool (seesB xn), .bool (seenB xn), .bool xa, .bool xb]), ((w7.heap.size + 1), 29, #[.bool (seesB yn), .bool (seenB yn), .bool ya, .bool yb])] w') := fun W w' hb h => kb_below hb h.2.2.2.2.2.2.2.2.2.2.2.2.2.2
  have Kb : KB w [(w2.heap.size, 23, #[.int .i64 xn, .bool xa, .bool xb]), ((w2.heap.size + 1), 23, #[.int .i64 yn, .bool ya, .bool yb]), (w7.heap.size, 29, #[.bool (seesB xn), .bool (seenB xn), .bool xa, .bool xb]), ((w7.heap.size + 1), 29, #[.bool (seesB yn), .bool (seenB yn), .bool ya, .bool yb])] ((w7.alloc (.cells #[.bool (seesB xn), .bool (seenB xn), .bool xa, .bool xb] 29)).alloc (.cells #[.bool (seesB yn), .bool (seenB yn), .bool ya, .bool yb] 29)) := kb_cons (((K7.1 _ (List.mem_cons_of_mem _ (List.mem_cons_of_mem _ (List.mem_cons_self ..)))).alloc _).alloc _) (kb_cons (((K7.1 _ (List.mem_cons_of_mem _ (List.mem_cons_of_mem _ (List.mem_cons_of_mem _ (List.mem_cons_self ..))))).alloc _).alloc _) (kb_cons ((Blk.new _ _ _).alloc _) (kb_cons b8 (kb_nil ((K7.2.alloc K7.2.size _).alloc (K7.2.alloc K7.2.size _).size _)))))
  clear b8 K7 Fa Ga Ka
  go_wp2_with fail
  go_region_held3 (fun w' => w'.cell? ⟨w2.heap.size, 0, none⟩ = some (.int .i64 xn) ∧ w'.cell? ⟨w2.heap.size, 1, none⟩ = some (.bool xa) ∧ w'.cell? ⟨w2.heap.size, 2, none⟩ = some (.bool xb) ∧ w'.cell? ⟨(w2.heap.size + 1), 0, none⟩ = some (.int .i64 yn) ∧ w'.cell? ⟨(w2.heap.size + 1), 1, none⟩ = some (.bool ya) ∧ w'.cell? ⟨(w2.heap.size + 1), 2, none⟩ = some (.bool yb) ∧ w'.cell? ⟨w7.heap.size, 0, none⟩ = some (.bool (seesB xn)) ∧ w'.cell? ⟨w7.heap.size, 1, none⟩ = some (.bool (seenB xn)) ∧ w'.cell? ⟨w7.heap.size, 2, none⟩ = some (.bool xa) ∧ w'.cell? ⟨w7.heap.size, 3, none⟩ = some (.bool xb) ∧ w'.cell? ⟨(w7.heap.size + 1), 0, none⟩ = some (.bool (seesB yn)) ∧ w'.cell? ⟨(w7.heap.size + 1), 1, none⟩ = some (.bool (seenB yn)) ∧ w'.cell? ⟨(w7.heap.size + 1), 2, none⟩ = some (.bool ya) ∧ w'.cell? ⟨(w7.heap.size + 1), 3, none⟩ = some (.bool yb) ∧ KB w [(w2.heap.size, 23, #[.int .i64 xn, .bool xa, .bool xb]), ((w2.heap.size + 1), 23, #[.int .i64 yn, .bool ya, .bool yb]), (w7.heap.size, 29, #[.bool (seesB xn), .bool (seenB xn), .bool xa, .bool xb]), ((w7.heap.size + 1), 29, #[.bool (seesB yn), .bool (seenB yn), .bool ya, .bool yb])] w') ((refine Fb.out _ ?_; first | assumption | exact kb_dr (by assumption)))
    (first | (go_at_call_of 14 (Value.agg #[Value.bool (seesB xn), Value.bool (seenB xn), Value.bool xa, Value.bool xb]); refine (side_of xn xa xb h5 _).mono ?_; rintro e w8 ⟨rfl, hb8⟩; have K8 := Gb.out _ _ hb8 (by assumption); clear hb8) | (go_at_call 14; refine (side_of yn ya yb h6 _).mono ?_; rintro e w9 ⟨rfl, hb9⟩; have K9 := Gb.out _ _ hb9 (by assumption); clear hb9))
  go_wp2
  go_ret
  exact ⟨rfl, K9.2⟩

theorem pboth_any (n : Int) (a b : Bool) (m : Int) (c d : Bool) (act : Int) (w : World) : Calls Try.prog 3 #[S n a b, S m c d, .int .i64 act] w fun e w' => e = .returned (.bool true) ∧ Below w.heap.size w w' := by
  cases h1 : rightB n a b
  · exact pboth_i1 n a b m c d act h1 (fun w => both_err n a b m c d act (fun k => by rw [h1] at k; cases k.1) w) w
  · cases h2 : rightB m c d
    · exact pboth_i2 n a b m c d act h1 h2 (fun w => both_err n a b m c d act (fun k => by rw [h2] at k; cases k.2.1) w) w
    · by_cases h3 : act < 1
      · exact pboth_i3 n a b m c d act h1 h2 h3 (fun w => both_err n a b m c d act (fun k => by have := k.2.2.1; omega) w) w
      · by_cases h4 : 4 < act
        · exact pboth_i4 n a b m c d act h1 h2 h4 h3 (fun w => both_err n a b m c d act (fun k => by have := k.2.2.2; omega) w) w
        · obtain ⟨k1, k2⟩ := right_both n a b m c d act h1 h2 (by omega) (by omega)
          exact pboth_ok n a b m c d act _ _ _ _ _ _ h1 h2 h3 h4 k1 k2 (fun w => both_ok n a b m c d act h1 h2 (by omega) (by omega) w) (fun w => rboth_ok n a b m c d act h1 h2 (by omega) (by omega) w) w

/-- A side handed in. -/
theorem open_side3 {H : Type} {enc : TypeId × Value → H} {W : World} {base : Nat} {v : Value} {d : DataW H} {p : List MemPlace} (hval : Value.okWide Try.prog W .any base 23 v) (h : DataW.Trod enc Try.prog W 0 (fun _ => true) true 23 v d p) : ∃ (n : Int) (a b : Bool), v = S n a b := by
  obtain ⟨c0, c1, c2, y0, y1, y2, m, rfl, rfl, rfl, hy0, hy1, hy2⟩ := open_agg3 Try.underlying23 (by kernel_rfl) (by kernel_rfl) hval h
  obtain ⟨n, e0, _, w0⟩ := DataW.trod_int Try.underlying3 hy0
  obtain ⟨a, e1, _⟩ := DataW.trod_bool Try.underlying4 hy1
  obtain ⟨b, e2, _⟩ := DataW.trod_bool Try.underlying4 hy2
  simp at e0 e1 e2
  subst e0 e1 e2
  exact ⟨n, a, b, rfl⟩

set_option maxRecDepth 100000 in
theorem pactBoth_lifted (os : Os) (started : os.Started) (H : Type) (enc : TypeId × Value → H) :
    ReturnsInHanded {} Try.checked os 3 .any (Rows.pactBothSpec.pre6 enc Try.prog Try.f3 Rows.pactBothRow.domain false) (Rows.pactBothSpec.post enc Try.prog Try.f3 false true false false) := by
  refine returnsInHanded_of_change (C := Try.checked) Try.own started (by kernel_rfl) Try.func3
    (ChangeSpec.witness6 (enc := enc) (C := Try.checked) false ⟨#[], #[.agg #[.int .i64 0, .bool false, .bool false], .agg #[.int .i64 0, .bool false, .bool false], .int .i64 0], []⟩ 8 (by kernel_rfl) (by kernel_rfl) (by kernel_rfl) (by kernel_rfl)) ?_
  intro W base args ds gs before hval0 hW hcnd _
  have hval : ∀ (j : Nat) t v, Try.f3.params[j]? = some t → args[j]? = some v → Value.okWide Try.prog W .any base t v := hval0
  have hW' := hW
  obtain ⟨p, q, hA0, hV, rfl, hfz, hnd⟩ := hW
  have hA : DataW.TrodAll enc Try.prog W 0 (fun _ => true) true Try.f3.params.toList args.toList ds p := hA0
  have hA1 := hA
  rw [Try.params3] at hA hval
  obtain ⟨v0, v1, v2, d0, d1, d2, p0, p1, p2, rfl, rfl, rfl, h0, h1, h2⟩ := trodAll_three hA
  obtain ⟨rfl, rfl⟩ := trodVars_none hV
  obtain ⟨n, a, b, rfl⟩ := open_side3 (hval 0 23 v0 rfl rfl) h0
  obtain ⟨m, c, d, rfl⟩ := open_side3 (hval 1 23 v1 rfl rfl) h1
  obtain ⟨act, rfl, rfl, rfl, wa⟩ := open_int Try.underlying3 (hval 2 3 v2 rfl rfl) h2
  clear hA0 hval0
  simp only [List.append_nil] at hW' hA1
  refine (pboth_any n a b m c d act W).mono fun e W' ⟨he, hb⟩ => ?_
  subst he
  have hts : ∀ t ∈ Try.f3.params.toList, Try.prog.readableRec t = true ∧ t < Try.prog.types.size := by
    rw [Try.params3]
    intro t ht
    simp at ht
    rcases ht with rfl | rfl
    · exact ⟨by kernel_rfl, of_decide_eq_true (by kernel_rfl)⟩
    · exact ⟨by kernel_rfl, of_decide_eq_true (by kernel_rfl)⟩
  exact ⟨_, rfl, post_of_below (pa := p0 ++ p1) (pv := []) hW' (fun _ _ _ => trodAll_mk1 (shut_bool Try.underlying4 _)) (fun sp hsp => trodAll_below Try.laidOut hb hts hA1 (fun x hx => ⟨hW'.lt x hx, hsp x hx⟩)) (fun _ _ => rfl) (by simp)
    hb (ok_one (by kernel_rfl) rfl (okWide_bool_mk Try.underlying4 _))⟩

theorem pactBoth_holds : Rows.PactBothSaid :=
  OpenClaim.holds_of_wide 3 Try.f3 rfl rfl rfl rfl rfl rfl rfl ⟨rfl, rfl, rfl, rfl, rfl⟩ rfl rfl rfl rfl rfl (by kernel_rfl) Try.func3 (by kernel_rfl)
    (of_decide_eq_true (by kernel_rfl)) (by unfold Func.isWrapper; first | (rw [if_pos (by decide +kernel)]; kernel_rfl) | (rw [if_neg (by decide +kernel)]; exact ⟨rfl, rfl⟩))
    (fun os started H enc _ => pactBoth_lifted os started H enc)
#print axioms pactBoth_holds
end Go.Proofs.Ytajdhlcnfmlkiaa
