/- PactStill: what isn't told, or passed on, changes no side; an act done twice changes nothing the second time: for every side and every act. -/
import Derived.Test.YtajdhlcnfmlkiaaH
namespace Go.Proofs.Ytajdhlcnfmlkiaa
open Go.RowKit
attribute [local go_sem ↓] Go.wp_at_zero Go.wp_at_succ

set_option maxHeartbeats 1000000 in
theorem still1 (n : Int) (a b : Bool) (act : Int) (xn : Int) (xa xb : Bool) (yn : Int) (ya yb : Bool) (de : Bool) (k : act = 1) (HD : Hid (Ans 21 n a b act xn xa xb true false 0)) (HH : Hid (Ans 22 n a b act yn ya yb true false 0)) (HD2 : Hid (Ans 21 xn xa xb act xn xa xb true false 0)) (HH2 : Hid (Ans 22 yn ya yb act yn ya yb false de 0)) (w : World) :
    Calls Try.prog 7 #[S n a b, .int .i64 act] w fun e w' => e = .returned (.bool true) ∧ Below w.heap.size w w' := by
  subst k
  go_enter Try.func7, Try.ntmps7
  go_wp2_with fail
  refine (lives_any _).mono ?_
  rintro e w1 ⟨rfl, hb1⟩
  have B1 : Below w.heap.size w w1 := ((((Below.refl w.heap.size w)).alloc ((Below.refl w.heap.size w)).size (.cells #[.int .i64 n, .bool a, .bool b] 23))).trans (hb1.mono ((((Below.refl w.heap.size w)).alloc ((Below.refl w.heap.size w)).size (.cells #[.int .i64 n, .bool a, .bool b] 23))).size)
  have p1 := (Blk.new w 23 #[.int .i64 n, .bool a, .bool b]).below hb1 (Blk.new w 23 #[.int .i64 n, .bool a, .bool b]).lt
  clear hb1
  have p1c0 := p1.cell 0
  have p1c1 := p1.cell 1
  have p1c2 := p1.cell 2
  simp only [List.getElem?_toArray, List.getElem?_cons_zero, List.getElem?_cons_succ] at p1c0 p1c1 p1c2
  go_wp2_with fail
  refine (HD _).mono ?_
  rintro e w2 ⟨rfl, hb2⟩
  have B2 : Below w.heap.size w w2 := (B1).trans (hb2.mono (B1).size)
  have p2 := (p1).below hb2 (p1).lt
  clear hb2 B1 p1
  have p2c0 := p2.cell 0
  have p2c1 := p2.cell 1
  have p2c2 := p2.cell 2
  simp only [List.getElem?_toArray, List.getElem?_cons_zero, List.getElem?_cons_succ] at p2c0 p2c1 p2c2
  have z1 := fun o => (p2.alloc o).cell 0
  have z2 := fun o => (p2.alloc o).cell 1
  have z3 := fun o => (p2.alloc o).cell 2
  simp only [List.getElem?_toArray, List.getElem?_cons_zero, List.getElem?_cons_succ] at z1 z2 z3
  go_wp2_with fail
  refine (HH _).mono ?_
  rintro e w3 ⟨rfl, hb3⟩
  have B3 : Below w.heap.size w w3 := (((B2).alloc (B2).size (.cells #[.int .i64 xn, .bool xa, .bool xb, .bool true, .bool false] 47))).trans (hb3.mono (((B2).alloc (B2).size (.cells #[.int .i64 xn, .bool xa, .bool xb, .bool true, .bool false] 47))).size)
  have p3 := (((p2).alloc (.cells #[.int .i64 xn, .bool xa, .bool xb, .bool true, .bool false] 47))).below hb3 (((p2).alloc (.cells #[.int .i64 xn, .bool xa, .bool xb, .bool true, .bool false] 47))).lt
  have q3 := (Blk.new w2 47 #[.int .i64 xn, .bool xa, .bool xb, .bool true, .bool false]).below hb3 (Blk.new w2 47 #[.int .i64 xn, .bool xa, .bool xb, .bool true, .bool false]).lt
  clear hb3 B2 p2
  have p3c0 := p3.cell 0
  have p3c1 := p3.cell 1
  have p3c2 := p3.cell 2
  simp only [List.getElem?_toArray, List.getElem?_cons_zero, List.getElem?_cons_succ] at p3c0 p3c1 p3c2
  have q3c0 := q3.cell 0
  have q3c1 := q3.cell 1
  have q3c2 := q3.cell 2
  have q3c3 := q3.cell 3
  have q3c4 := q3.cell 4
  simp only [List.getElem?_toArray, List.getElem?_cons_zero, List.getElem?_cons_succ] at q3c0 q3c1 q3c2 q3c3 q3c4
  clear z1 z2 z3
  have zp0 := fun o => (p3.alloc o).cell 0
  have zp1 := fun o => (p3.alloc o).cell 1
  have zp2 := fun o => (p3.alloc o).cell 2
  have zq0 := fun o => (q3.alloc o).cell 0
  have zq1 := fun o => (q3.alloc o).cell 1
  have zq2 := fun o => (q3.alloc o).cell 2
  have zq3 := fun o => (q3.alloc o).cell 3
  have zq4 := fun o => (q3.alloc o).cell 4
  simp only [List.getElem?_toArray, List.getElem?_cons_zero, List.getElem?_cons_succ] at zp0 zp1 zp2 zq0 zq1 zq2 zq3 zq4
  go_wp2_with fail
  refine (HD2 _).mono ?_
  rintro e w4 ⟨rfl, hb4⟩
  have B4 : Below w.heap.size w w4 := (((B3).alloc (B3).size (.cells #[.int .i64 yn, .bool ya, .bool yb, .bool true, .bool false] 47))).trans (hb4.mono (((B3).alloc (B3).size (.cells #[.int .i64 yn, .bool ya, .bool yb, .bool true, .bool false] 47))).size)
  have p4 := (((p3).alloc (.cells #[.int .i64 yn, .bool ya, .bool yb, .bool true, .bool false] 47))).below hb4 (((p3).alloc (.cells #[.int .i64 yn, .bool ya, .bool yb, .bool true, .bool false] 47))).lt
  have q4 := (((q3).alloc (.cells #[.int .i64 yn, .bool ya, .bool yb, .bool true, .bool false] 47))).below hb4 (((q3).alloc (.cells #[.int .i64 yn, .bool ya, .bool yb, .bool true, .bool false] 47))).lt
  have r4 := (Blk.new w3 47 #[.int .i64 yn, .bool ya, .bool yb, .bool true, .bool false]).below hb4 (Blk.new w3 47 #[.int .i64 yn, .bool ya, .bool yb, .bool true, .bool false]).lt
  clear hb4 B3 p3 q3
  clear zp0 zp1 zp2 zq0 zq1 zq2 zq3 zq4
  have p4c0 := p4.cell 0
  have p4c1 := p4.cell 1
  have p4c2 := p4.cell 2
  simp only [List.getElem?_toArray, List.getElem?_cons_zero, List.getElem?_cons_succ] at p4c0 p4c1 p4c2
  have q4c0 := q4.cell 0
  have q4c1 := q4.cell 1
  have q4c2 := q4.cell 2
  have q4c3 := q4.cell 3
  have q4c4 := q4.cell 4
  simp only [List.getElem?_toArray, List.getElem?_cons_zero, List.getElem?_cons_succ] at q4c0 q4c1 q4c2 q4c3 q4c4
  have r4c0 := r4.cell 0
  have r4c1 := r4.cell 1
  have r4c2 := r4.cell 2
  have r4c3 := r4.cell 3
  have r4c4 := r4.cell 4
  simp only [List.getElem?_toArray, List.getElem?_cons_zero, List.getElem?_cons_succ] at r4c0 r4c1 r4c2 r4c3 r4c4
  have zp0 := fun o => (p4.alloc o).cell 0
  have zp1 := fun o => (p4.alloc o).cell 1
  have zp2 := fun o => (p4.alloc o).cell 2
  have zq0 := fun o => (q4.alloc o).cell 0
  have zq1 := fun o => (q4.alloc o).cell 1
  have zq2 := fun o => (q4.alloc o).cell 2
  have zq3 := fun o => (q4.alloc o).cell 3
  have zq4 := fun o => (q4.alloc o).cell 4
  have zr0 := fun o => (r4.alloc o).cell 0
  have zr1 := fun o => (r4.alloc o).cell 1
  have zr2 := fun o => (r4.alloc o).cell 2
  have zr3 := fun o => (r4.alloc o).cell 3
  have zr4 := fun o => (r4.alloc o).cell 4
  simp only [List.getElem?_toArray, List.getElem?_cons_zero, List.getElem?_cons_succ] at zp0 zp1 zp2 zq0 zq1 zq2 zq3 zq4 zr0 zr1 zr2 zr3 zr4
  go_wp2_with fail
  refine (HH2 _).mono ?_
  rintro e w5 ⟨rfl, hb5⟩
  have B5 : Below w.heap.size w w5 := (((B4).alloc (B4).size (.cells #[.int .i64 xn, .bool xa, .bool xb, .bool true, .bool false] 47))).trans (hb5.mono (((B4).alloc (B4).size (.cells #[.int .i64 xn, .bool xa, .bool xb, .bool true, .bool false] 47))).size)
  have p5 := (((p4).alloc (.cells #[.int .i64 xn, .bool xa, .bool xb, .bool true, .bool false] 47))).below hb5 (((p4).alloc (.cells #[.int .i64 xn, .bool xa, .bool xb, .bool true, .bool false] 47))).lt
  have q5 := (((q4).alloc (.cells #[.int .i64 xn, .bool xa, .bool xb, .bool true, .bool false] 47))).below hb5 (((q4).alloc (.cells #[.int .i64 xn, .bool xa, .bool xb, .bool true, .bool false] 47))).lt
  have r5 := (((r4).alloc (.cells #[.int .i64 xn, .bool xa, .bool xb, .bool true, .bool false] 47))).below hb5 (((r4).alloc (.cells #[.int .i64 xn, .bool xa, .bool xb, .bool true, .bool false] 47))).lt
  have t5 := (Blk.new w4 47 #[.int .i64 xn, .bool xa, .bool xb, .bool true, .bool false]).below hb5 (Blk.new w4 47 #[.int .i64 xn, .bool xa, .bool xb, .bool true, .bool false]).lt
  clear hb5 B4 p4 q4 r4
  clear zp0 zp1 zp2 zq0 zq1 zq2 zq3 zq4 zr0 zr1 zr2 zr3 zr4
  have p5c0 := p5.cell 0
  have p5c1 := p5.cell 1
  have p5c2 := p5.cell 2
  simp only [List.getElem?_toArray, List.getElem?_cons_zero, List.getElem?_cons_succ] at p5c0 p5c1 p5c2
  have q5c0 := q5.cell 0
  have q5c1 := q5.cell 1
  have q5c2 := q5.cell 2
  have q5c3 := q5.cell 3
  have q5c4 := q5.cell 4
  simp only [List.getElem?_toArray, List.getElem?_cons_zero, List.getElem?_cons_succ] at q5c0 q5c1 q5c2 q5c3 q5c4
  have r5c0 := r5.cell 0
  have r5c1 := r5.cell 1
  have r5c2 := r5.cell 2
  have r5c3 := r5.cell 3
  have r5c4 := r5.cell 4
  simp only [List.getElem?_toArray, List.getElem?_cons_zero, List.getElem?_cons_succ] at r5c0 r5c1 r5c2 r5c3 r5c4
  have t5c0 := t5.cell 0
  have t5c1 := t5.cell 1
  have t5c2 := t5.cell 2
  have t5c3 := t5.cell 3
  have t5c4 := t5.cell 4
  simp only [List.getElem?_toArray, List.getElem?_cons_zero, List.getElem?_cons_succ] at t5c0 t5c1 t5c2 t5c3 t5c4
  have zp0 := fun o => (p5.alloc o).cell 0
  have zp1 := fun o => (p5.alloc o).cell 1
  have zp2 := fun o => (p5.alloc o).cell 2
  have zq0 := fun o => (q5.alloc o).cell 0
  have zq1 := fun o => (q5.alloc o).cell 1
  have zq2 := fun o => (q5.alloc o).cell 2
  have zq3 := fun o => (q5.alloc o).cell 3
  have zq4 := fun o => (q5.alloc o).cell 4
  have zr0 := fun o => (r5.alloc o).cell 0
  have zr1 := fun o => (r5.alloc o).cell 1
  have zr2 := fun o => (r5.alloc o).cell 2
  have zr3 := fun o => (r5.alloc o).cell 3
  have zr4 := fun o => (r5.alloc o).cell 4
  have zt0 := fun o => (t5.alloc o).cell 0
  have zt1 := fun o => (t5.alloc o).cell 1
  have zt2 := fun o => (t5.alloc o).cell 2
  have zt3 := fun o => (t5.alloc o).cell 3
  have zt4 := fun o => (t5.alloc o).cell 4
  simp only [List.getElem?_toArray, List.getElem?_cons_zero, List.getElem?_cons_succ] at zp0 zp1 zp2 zq0 zq1 zq2 zq3 zq4 zr0 zr1 zr2 zr3 zr4 zt0 zt1 zt2 zt3 zt4
  go_wp2
  go_ret
  exact ⟨rfl, B5.alloc B5.size _⟩

set_option maxHeartbeats 1000000 in
theorem still2 (n : Int) (a b : Bool) (act : Int) (xn : Int) (xa xb : Bool) (yn : Int) (ya yb : Bool) (de : Bool) (k : (act == 1) = false) (HD : Hid (Ans 21 n a b act xn xa xb true false 0)) (HH : Hid (Ans 22 n a b act yn ya yb true false 0)) (HD2 : Hid (Ans 21 xn xa xb act xn xa xb false false 0)) (HH2 : Hid (Ans 22 yn ya yb act yn ya yb false de 0)) (w : World) :
    Calls Try.prog 7 #[S n a b, .int .i64 act] w fun e w' => e = .returned (.bool true) ∧ Below w.heap.size w w' := by
  go_enter Try.func7, Try.ntmps7
  go_wp2_with fail
  refine (lives_any _).mono ?_
  rintro e w1 ⟨rfl, hb1⟩
  have B1 : Below w.heap.size w w1 := ((((Below.refl w.heap.size w)).alloc ((Below.refl w.heap.size w)).size (.cells #[.int .i64 n, .bool a, .bool b] 23))).trans (hb1.mono ((((Below.refl w.heap.size w)).alloc ((Below.refl w.heap.size w)).size (.cells #[.int .i64 n, .bool a, .bool b] 23))).size)
  have p1 := (Blk.new w 23 #[.int .i64 n, .bool a, .bool b]).below hb1 (Blk.new w 23 #[.int .i64 n, .bool a, .bool b]).lt
  clear hb1
  have p1c0 := p1.cell 0
  have p1c1 := p1.cell 1
  have p1c2 := p1.cell 2
  simp only [List.getElem?_toArray, List.getElem?_cons_zero, List.getElem?_cons_succ] at p1c0 p1c1 p1c2
  go_wp2_with fail
  refine (HD _).mono ?_
  rintro e w2 ⟨rfl, hb2⟩
  have B2 : Below w.heap.size w w2 := (B1).trans (hb2.mono (B1).size)
  have p2 := (p1).below hb2 (p1).lt
  clear hb2 B1 p1
  have p2c0 := p2.cell 0
  have p2c1 := p2.cell 1
  have p2c2 := p2.cell 2
  simp only [List.getElem?_toArray, List.getElem?_cons_zero, List.getElem?_cons_succ] at p2c0 p2c1 p2c2
  have z1 := fun o => (p2.alloc o).cell 0
  have z2 := fun o => (p2.alloc o).cell 1
  have z3 := fun o => (p2.alloc o).cell 2
  simp only [List.getElem?_toArray, List.getElem?_cons_zero, List.getElem?_cons_succ] at z1 z2 z3
  go_wp2_with fail
  refine (HH _).mono ?_
  rintro e w3 ⟨rfl, hb3⟩
  have B3 : Below w.heap.size w w3 := (((B2).alloc (B2).size (.cells #[.int .i64 xn, .bool xa, .bool xb, .bool true, .bool false] 47))).trans (hb3.mono (((B2).alloc (B2).size (.cells #[.int .i64 xn, .bool xa, .bool xb, .bool true, .bool false] 47))).size)
  have p3 := (((p2).alloc (.cells #[.int .i64 xn, .bool xa, .bool xb, .bool true, .bool false] 47))).below hb3 (((p2).alloc (.cells #[.int .i64 xn, .bool xa, .bool xb, .bool true, .bool false] 47))).lt
  have q3 := (Blk.new w2 47 #[.int .i64 xn, .bool xa, .bool xb, .bool true, .bool false]).below hb3 (Blk.new w2 47 #[.int .i64 xn, .bool xa, .bool xb, .bool true, .bool false]).lt
  clear hb3 B2 p2
  have p3c0 := p3.cell 0
  have p3c1 := p3.cell 1
  have p3c2 := p3.cell 2
  simp only [List.getElem?_toArray, List.getElem?_cons_zero, List.getElem?_cons_succ] at p3c0 p3c1 p3c2
  have q3c0 := q3.cell 0
  have q3c1 := q3.cell 1
  have q3c2 := q3.cell 2
  have q3c3 := q3.cell 3
  have q3c4 := q3.cell 4
  simp only [List.getElem?_toArray, List.getElem?_cons_zero, List.getElem?_cons_succ] at q3c0 q3c1 q3c2 q3c3 q3c4
  clear z1 z2 z3
  have zp0 := fun o => (p3.alloc o).cell 0
  have zp1 := fun o => (p3.alloc o).cell 1
  have zp2 := fun o => (p3.alloc o).cell 2
  have zq0 := fun o => (q3.alloc o).cell 0
  have zq1 := fun o => (q3.alloc o).cell 1
  have zq2 := fun o => (q3.alloc o).cell 2
  have zq3 := fun o => (q3.alloc o).cell 3
  have zq4 := fun o => (q3.alloc o).cell 4
  simp only [List.getElem?_toArray, List.getElem?_cons_zero, List.getElem?_cons_succ] at zp0 zp1 zp2 zq0 zq1 zq2 zq3 zq4
  go_wp2_with fail
  refine (HD2 _).mono ?_
  rintro e w4 ⟨rfl, hb4⟩
  have B4 : Below w.heap.size w w4 := (((B3).alloc (B3).size (.cells #[.int .i64 yn, .bool ya, .bool yb, .bool true, .bool false] 47))).trans (hb4.mono (((B3).alloc (B3).size (.cells #[.int .i64 yn, .bool ya, .bool yb, .bool true, .bool false] 47))).size)
  have p4 := (((p3).alloc (.cells #[.int .i64 yn, .bool ya, .bool yb, .bool true, .bool false] 47))).below hb4 (((p3).alloc (.cells #[.int .i64 yn, .bool ya, .bool yb, .bool true, .bool false] 47))).lt
  have q4 := (((q3).alloc (.cells #[.int .i64 yn, .bool ya, .bool yb, .bool true, .bool false] 47))).below hb4 (((q3).alloc (.cells #[.int .i64 yn, .bool ya, .bool yb, .bool true, .bool false] 47))).lt
  have r4 := (Blk.new w3 47 #[.int .i64 yn, .bool ya, .bool yb, .bool true, .bool false]).below hb4 (Blk.new w3 47 #[.int .i64 yn, .bool ya, .bool yb, .bool true, .bool false]).lt
  clear hb4 B3 p3 q3
  clear zp0 zp1 zp2 zq0 zq1 zq2 zq3 zq4
  have p4c0 := p4.cell 0
  have p4c1 := p4.cell 1
  have p4c2 := p4.cell 2
  simp only [List.getElem?_toArray, List.getElem?_cons_zero, List.getElem?_cons_succ] at p4c0 p4c1 p4c2
  have q4c0 := q4.cell 0
  have q4c1 := q4.cell 1
  have q4c2 := q4.cell 2
  have q4c3 := q4.cell 3
  have q4c4 := q4.cell 4
  simp only [List.getElem?_toArray, List.getElem?_cons_zero, List.getElem?_cons_succ] at q4c0 q4c1 q4c2 q4c3 q4c4
  have r4c0 := r4.cell 0
  have r4c1 := r4.cell 1
  have r4c2 := r4.cell 2
  have r4c3 := r4.cell 3
  have r4c4 := r4.cell 4
  simp only [List.getElem?_toArray, List.getElem?_cons_zero, List.getElem?_cons_succ] at r4c0 r4c1 r4c2 r4c3 r4c4
  have zp0 := fun o => (p4.alloc o).cell 0
  have zp1 := fun o => (p4.alloc o).cell 1
  have zp2 := fun o => (p4.alloc o).cell 2
  have zq0 := fun o => (q4.alloc o).cell 0
  have zq1 := fun o => (q4.alloc o).cell 1
  have zq2 := fun o => (q4.alloc o).cell 2
  have zq3 := fun o => (q4.alloc o).cell 3
  have zq4 := fun o => (q4.alloc o).cell 4
  have zr0 := fun o => (r4.alloc o).cell 0
  have zr1 := fun o => (r4.alloc o).cell 1
  have zr2 := fun o => (r4.alloc o).cell 2
  have zr3 := fun o => (r4.alloc o).cell 3
  have zr4 := fun o => (r4.alloc o).cell 4
  simp only [List.getElem?_toArray, List.getElem?_cons_zero, List.getElem?_cons_succ] at zp0 zp1 zp2 zq0 zq1 zq2 zq3 zq4 zr0 zr1 zr2 zr3 zr4
  go_wp2_with fail
  refine (HH2 _).mono ?_
  rintro e w5 ⟨rfl, hb5⟩
  have B5 : Below w.heap.size w w5 := (((B4).alloc (B4).size (.cells #[.int .i64 xn, .bool xa, .bool xb, .bool false, .bool false] 47))).trans (hb5.mono (((B4).alloc (B4).size (.cells #[.int .i64 xn, .bool xa, .bool xb, .bool false, .bool false] 47))).size)
  have p5 := (((p4).alloc (.cells #[.int .i64 xn, .bool xa, .bool xb, .bool false, .bool false] 47))).below hb5 (((p4).alloc (.cells #[.int .i64 xn, .bool xa, .bool xb, .bool false, .bool false] 47))).lt
  have q5 := (((q4).alloc (.cells #[.int .i64 xn, .bool xa, .bool xb, .bool false, .bool false] 47))).below hb5 (((q4).alloc (.cells #[.int .i64 xn, .bool xa, .bool xb, .bool false, .bool false] 47))).lt
  have r5 := (((r4).alloc (.cells #[.int .i64 xn, .bool xa, .bool xb, .bool false, .bool false] 47))).below hb5 (((r4).alloc (.cells #[.int .i64 xn, .bool xa, .bool xb, .bool false, .bool false] 47))).lt
  have t5 := (Blk.new w4 47 #[.int .i64 xn, .bool xa, .bool xb, .bool false, .bool false]).below hb5 (Blk.new w4 47 #[.int .i64 xn, .bool xa, .bool xb, .bool false, .bool false]).lt
  clear hb5 B4 p4 q4 r4
  clear zp0 zp1 zp2 zq0 zq1 zq2 zq3 zq4 zr0 zr1 zr2 zr3 zr4
  have p5c0 := p5.cell 0
  have p5c1 := p5.cell 1
  have p5c2 := p5.cell 2
  simp only [List.getElem?_toArray, List.getElem?_cons_zero, List.getElem?_cons_succ] at p5c0 p5c1 p5c2
  have q5c0 := q5.cell 0
  have q5c1 := q5.cell 1
  have q5c2 := q5.cell 2
  have q5c3 := q5.cell 3
  have q5c4 := q5.cell 4
  simp only [List.getElem?_toArray, List.getElem?_cons_zero, List.getElem?_cons_succ] at q5c0 q5c1 q5c2 q5c3 q5c4
  have r5c0 := r5.cell 0
  have r5c1 := r5.cell 1
  have r5c2 := r5.cell 2
  have r5c3 := r5.cell 3
  have r5c4 := r5.cell 4
  simp only [List.getElem?_toArray, List.getElem?_cons_zero, List.getElem?_cons_succ] at r5c0 r5c1 r5c2 r5c3 r5c4
  have t5c0 := t5.cell 0
  have t5c1 := t5.cell 1
  have t5c2 := t5.cell 2
  have t5c3 := t5.cell 3
  have t5c4 := t5.cell 4
  simp only [List.getElem?_toArray, List.getElem?_cons_zero, List.getElem?_cons_succ] at t5c0 t5c1 t5c2 t5c3 t5c4
  have zp0 := fun o => (p5.alloc o).cell 0
  have zp1 := fun o => (p5.alloc o).cell 1
  have zp2 := fun o => (p5.alloc o).cell 2
  have zq0 := fun o => (q5.alloc o).cell 0
  have zq1 := fun o => (q5.alloc o).cell 1
  have zq2 := fun o => (q5.alloc o).cell 2
  have zq3 := fun o => (q5.alloc o).cell 3
  have zq4 := fun o => (q5.alloc o).cell 4
  have zr0 := fun o => (r5.alloc o).cell 0
  have zr1 := fun o => (r5.alloc o).cell 1
  have zr2 := fun o => (r5.alloc o).cell 2
  have zr3 := fun o => (r5.alloc o).cell 3
  have zr4 := fun o => (r5.alloc o).cell 4
  have zt0 := fun o => (t5.alloc o).cell 0
  have zt1 := fun o => (t5.alloc o).cell 1
  have zt2 := fun o => (t5.alloc o).cell 2
  have zt3 := fun o => (t5.alloc o).cell 3
  have zt4 := fun o => (t5.alloc o).cell 4
  simp only [List.getElem?_toArray, List.getElem?_cons_zero, List.getElem?_cons_succ] at zp0 zp1 zp2 zq0 zq1 zq2 zq3 zq4 zr0 zr1 zr2 zr3 zr4 zt0 zt1 zt2 zt3 zt4
  go_wp2
  go_ret
  exact ⟨rfl, B5.alloc B5.size _⟩

set_option maxHeartbeats 1000000 in
theorem still3 (n : Int) (a b : Bool) (act : Int) (xn : Int) (xa xb : Bool) (ye : Bool) (de : Bool) (k : act = 1) (HD : Hid (Ans 21 n a b act xn xa xb true false 0)) (HH : Hid (Ans 22 n a b act n a b false ye 0)) (HD2 : Hid (Ans 21 xn xa xb act xn xa xb true false 0)) (HH2 : Hid (Ans 22 n a b act n a b false de 0)) (w : World) :
    Calls Try.prog 7 #[S n a b, .int .i64 act] w fun e w' => e = .returned (.bool true) ∧ Below w.heap.size w w' := by
  subst k
  go_enter Try.func7, Try.ntmps7
  go_wp2_with fail
  refine (lives_any _).mono ?_
  rintro e w1 ⟨rfl, hb1⟩
  have B1 : Below w.heap.size w w1 := ((((Below.refl w.heap.size w)).alloc ((Below.refl w.heap.size w)).size (.cells #[.int .i64 n, .bool a, .bool b] 23))).trans (hb1.mono ((((Below.refl w.heap.size w)).alloc ((Below.refl w.heap.size w)).size (.cells #[.int .i64 n, .bool a, .bool b] 23))).size)
  have p1 := (Blk.new w 23 #[.int .i64 n, .bool a, .bool b]).below hb1 (Blk.new w 23 #[.int .i64 n, .bool a, .bool b]).lt
  clear hb1
  have p1c0 := p1.cell 0
  have p1c1 := p1.cell 1
  have p1c2 := p1.cell 2
  simp only [List.getElem?_toArray, List.getElem?_cons_zero, List.getElem?_cons_succ] at p1c0 p1c1 p1c2
  go_wp2_with fail
  refine (HD _).mono ?_
  rintro e w2 ⟨rfl, hb2⟩
  have B2 : Below w.heap.size w w2 := (B1).trans (hb2.mono (B1).size)
  have p2 := (p1).below hb2 (p1).lt
  clear hb2 B1 p1
  have p2c0 := p2.cell 0
  have p2c1 := p2.cell 1
  have p2c2 := p2.cell 2
  simp only [List.getElem?_toArray, List.getElem?_cons_zero, List.getElem?_cons_succ] at p2c0 p2c1 p2c2
  have z1 := fun o => (p2.alloc o).cell 0
  have z2 := fun o => (p2.alloc o).cell 1
  have z3 := fun o => (p2.alloc o).cell 2
  simp only [List.getElem?_toArray, List.getElem?_cons_zero, List.getElem?_cons_succ] at z1 z2 z3
  go_wp2_with fail
  refine (HH _).mono ?_
  rintro e w3 ⟨rfl, hb3⟩
  have B3 : Below w.heap.size w w3 := (((B2).alloc (B2).size (.cells #[.int .i64 xn, .bool xa, .bool xb, .bool true, .bool false] 47))).trans (hb3.mono (((B2).alloc (B2).size (.cells #[.int .i64 xn, .bool xa, .bool xb, .bool true, .bool false] 47))).size)
  have p3 := (((p2).alloc (.cells #[.int .i64 xn, .bool xa, .bool xb, .bool true, .bool false] 47))).below hb3 (((p2).alloc (.cells #[.int .i64 xn, .bool xa, .bool xb, .bool true, .bool false] 47))).lt
  have q3 := (Blk.new w2 47 #[.int .i64 xn, .bool xa, .bool xb, .bool true, .bool false]).below hb3 (Blk.new w2 47 #[.int .i64 xn, .bool xa, .bool xb, .bool true, .bool false]).lt
  clear hb3 B2 p2
  have p3c0 := p3.cell 0
  have p3c1 := p3.cell 1
  have p3c2 := p3.cell 2
  simp only [List.getElem?_toArray, List.getElem?_cons_zero, List.getElem?_cons_succ] at p3c0 p3c1 p3c2
  have q3c0 := q3.cell 0
  have q3c1 := q3.cell 1
  have q3c2 := q3.cell 2
  have q3c3 := q3.cell 3
  have q3c4 := q3.cell 4
  simp only [List.getElem?_toArray, List.getElem?_cons_zero, List.getElem?_cons_succ] at q3c0 q3c1 q3c2 q3c3 q3c4
  clear z1 z2 z3
  have zp0 := fun o => (p3.alloc o).cell 0
  have zp1 := fun o => (p3.alloc o).cell 1
  have zp2 := fun o => (p3.alloc o).cell 2
  have zq0 := fun o => (q3.alloc o).cell 0
  have zq1 := fun o => (q3.alloc o).cell 1
  have zq2 := fun o => (q3.alloc o).cell 2
  have zq3 := fun o => (q3.alloc o).cell 3
  have zq4 := fun o => (q3.alloc o).cell 4
  simp only [List.getElem?_toArray, List.getElem?_cons_zero, List.getElem?_cons_succ] at zp0 zp1 zp2 zq0 zq1 zq2 zq3 zq4
  go_wp2_with fail
  refine (HD2 _).mono ?_
  rintro e w4 ⟨rfl, hb4⟩
  have B4 : Below w.heap.size w w4 := (((B3).alloc (B3).size (.cells #[.int .i64 n, .bool a, .bool b, .bool false, .bool ye] 47))).trans (hb4.mono (((B3).alloc (B3).size (.cells #[.int .i64 n, .bool a, .bool b, .bool false, .bool ye] 47))).size)
  have p4 := (((p3).alloc (.cells #[.int .i64 n, .bool a, .bool b, .bool false, .bool ye] 47))).below hb4 (((p3).alloc (.cells #[.int .i64 n, .bool a, .bool b, .bool false, .bool ye] 47))).lt
  have q4 := (((q3).alloc (.cells #[.int .i64 n, .bool a, .bool b, .bool false, .bool ye] 47))).below hb4 (((q3).alloc (.cells #[.int .i64 n, .bool a, .bool b, .bool false, .bool ye] 47))).lt
  have r4 := (Blk.new w3 47 #[.int .i64 n, .bool a, .bool b, .bool false, .bool ye]).below hb4 (Blk.new w3 47 #[.int .i64 n, .bool a, .bool b, .bool false, .bool ye]).lt
  clear hb4 B3 p3 q3
  clear zp0 zp1 zp2 zq0 zq1 zq2 zq3 zq4
  have p4c0 := p4.cell 0
  have p4c1 := p4.cell 1
  have p4c2 := p4.cell 2
  simp only [List.getElem?_toArray, List.getElem?_cons_zero, List.getElem?_cons_succ] at p4c0 p4c1 p4c2
  have q4c0 := q4.cell 0
  have q4c1 := q4.cell 1
  have q4c2 := q4.cell 2
  have q4c3 := q4.cell 3
  have q4c4 := q4.cell 4
  simp only [List.getElem?_toArray, List.getElem?_cons_zero, List.getElem?_cons_succ] at q4c0 q4c1 q4c2 q4c3 q4c4
  have r4c0 := r4.cell 0
  have r4c1 := r4.cell 1
  have r4c2 := r4.cell 2
  have r4c3 := r4.cell 3
  have r4c4 := r4.cell 4
  simp only [List.getElem?_toArray, List.getElem?_cons_zero, List.getElem?_cons_succ] at r4c0 r4c1 r4c2 r4c3 r4c4
  have zp0 := fun o => (p4.alloc o).cell 0
  have zp1 := fun o => (p4.alloc o).cell 1
  have zp2 := fun o => (p4.alloc o).cell 2
  have zq0 := fun o => (q4.alloc o).cell 0
  have zq1 := fun o => (q4.alloc o).cell 1
  have zq2 := fun o => (q4.alloc o).cell 2
  have zq3 := fun o => (q4.alloc o).cell 3
  have zq4 := fun o => (q4.alloc o).cell 4
  have zr0 := fun o => (r4.alloc o).cell 0
  have zr1 := fun o => (r4.alloc o).cell 1
  have zr2 := fun o => (r4.alloc o).cell 2
  have zr3 := fun o => (r4.alloc o).cell 3
  have zr4 := fun o => (r4.alloc o).cell 4
  simp only [List.getElem?_toArray, List.getElem?_cons_zero, List.getElem?_cons_succ] at zp0 zp1 zp2 zq0 zq1 zq2 zq3 zq4 zr0 zr1 zr2 zr3 zr4
  go_wp2_with fail
  refine (HH2 _).mono ?_
  rintro e w5 ⟨rfl, hb5⟩
  have B5 : Below w.heap.size w w5 := (((B4).alloc (B4).size (.cells #[.int .i64 xn, .bool xa, .bool xb, .bool true, .bool false] 47))).trans (hb5.mono (((B4).alloc (B4).size (.cells #[.int .i64 xn, .bool xa, .bool xb, .bool true, .bool false] 47))).size)
  have p5 := (((p4).alloc (.cells #[.int .i64 xn, .bool xa, .bool xb, .bool true, .bool false] 47))).below hb5 (((p4).alloc (.cells #[.int .i64 xn, .bool xa, .bool xb, .bool true, .bool false] 47))).lt
  have q5 := (((q4).alloc (.cells #[.int .i64 xn, .bool xa, .bool xb, .bool true, .bool false] 47))).below hb5 (((q4).alloc (.cells #[.int .i64 xn, .bool xa, .bool xb, .bool true, .bool false] 47))).lt
  have r5 := (((r4).alloc (.cells #[.int .i64 xn, .bool xa, .bool xb, .bool true, .bool false] 47))).below hb5 (((r4).alloc (.cells #[.int .i64 xn, .bool xa, .bool xb, .bool true, .bool false] 47))).lt
  have t5 := (Blk.new w4 47 #[.int .i64 xn, .bool xa, .bool xb, .bool true, .bool false]).below hb5 (Blk.new w4 47 #[.int .i64 xn, .bool xa, .bool xb, .bool true, .bool false]).lt
  clear hb5 B4 p4 q4 r4
  clear zp0 zp1 zp2 zq0 zq1 zq2 zq3 zq4 zr0 zr1 zr2 zr3 zr4
  have p5c0 := p5.cell 0
  have p5c1 := p5.cell 1
  have p5c2 := p5.cell 2
  simp only [List.getElem?_toArray, List.getElem?_cons_zero, List.getElem?_cons_succ] at p5c0 p5c1 p5c2
  have q5c0 := q5.cell 0
  have q5c1 := q5.cell 1
  have q5c2 := q5.cell 2
  have q5c3 := q5.cell 3
  have q5c4 := q5.cell 4
  simp only [List.getElem?_toArray, List.getElem?_cons_zero, List.getElem?_cons_succ] at q5c0 q5c1 q5c2 q5c3 q5c4
  have r5c0 := r5.cell 0
  have r5c1 := r5.cell 1
  have r5c2 := r5.cell 2
  have r5c3 := r5.cell 3
  have r5c4 := r5.cell 4
  simp only [List.getElem?_toArray, List.getElem?_cons_zero, List.getElem?_cons_succ] at r5c0 r5c1 r5c2 r5c3 r5c4
  have t5c0 := t5.cell 0
  have t5c1 := t5.cell 1
  have t5c2 := t5.cell 2
  have t5c3 := t5.cell 3
  have t5c4 := t5.cell 4
  simp only [List.getElem?_toArray, List.getElem?_cons_zero, List.getElem?_cons_succ] at t5c0 t5c1 t5c2 t5c3 t5c4
  have zp0 := fun o => (p5.alloc o).cell 0
  have zp1 := fun o => (p5.alloc o).cell 1
  have zp2 := fun o => (p5.alloc o).cell 2
  have zq0 := fun o => (q5.alloc o).cell 0
  have zq1 := fun o => (q5.alloc o).cell 1
  have zq2 := fun o => (q5.alloc o).cell 2
  have zq3 := fun o => (q5.alloc o).cell 3
  have zq4 := fun o => (q5.alloc o).cell 4
  have zr0 := fun o => (r5.alloc o).cell 0
  have zr1 := fun o => (r5.alloc o).cell 1
  have zr2 := fun o => (r5.alloc o).cell 2
  have zr3 := fun o => (r5.alloc o).cell 3
  have zr4 := fun o => (r5.alloc o).cell 4
  have zt0 := fun o => (t5.alloc o).cell 0
  have zt1 := fun o => (t5.alloc o).cell 1
  have zt2 := fun o => (t5.alloc o).cell 2
  have zt3 := fun o => (t5.alloc o).cell 3
  have zt4 := fun o => (t5.alloc o).cell 4
  simp only [List.getElem?_toArray, List.getElem?_cons_zero, List.getElem?_cons_succ] at zp0 zp1 zp2 zq0 zq1 zq2 zq3 zq4 zr0 zr1 zr2 zr3 zr4 zt0 zt1 zt2 zt3 zt4
  go_wp2
  go_ret
  exact ⟨rfl, B5.alloc B5.size _⟩

set_option maxHeartbeats 1000000 in
theorem still4 (n : Int) (a b : Bool) (act : Int) (xn : Int) (xa xb : Bool) (ye : Bool) (de : Bool) (k : (act == 1) = false) (HD : Hid (Ans 21 n a b act xn xa xb true false 0)) (HH : Hid (Ans 22 n a b act n a b false ye 0)) (HD2 : Hid (Ans 21 xn xa xb act xn xa xb false false 0)) (HH2 : Hid (Ans 22 n a b act n a b false de 0)) (w : World) :
    Calls Try.prog 7 #[S n a b, .int .i64 act] w fun e w' => e = .returned (.bool true) ∧ Below w.heap.size w w' := by
  go_enter Try.func7, Try.ntmps7
  go_wp2_with fail
  refine (lives_any _).mono ?_
  rintro e w1 ⟨rfl, hb1⟩
  have B1 : Below w.heap.size w w1 := ((((Below.refl w.heap.size w)).alloc ((Below.refl w.heap.size w)).size (.cells #[.int .i64 n, .bool a, .bool b] 23))).trans (hb1.mono ((((Below.refl w.heap.size w)).alloc ((Below.refl w.heap.size w)).size (.cells #[.int .i64 n, .bool a, .bool b] 23))).size)
  have p1 := (Blk.new w 23 #[.int .i64 n, .bool a, .bool b]).below hb1 (Blk.new w 23 #[.int .i64 n, .bool a, .bool b]).lt
  clear hb1
  have p1c0 := p1.cell 0
  have p1c1 := p1.cell 1
  have p1c2 := p1.cell 2
  simp only [List.getElem?_toArray, List.getElem?_cons_zero, List.getElem?_cons_succ] at p1c0 p1c1 p1c2
  go_wp2_with fail
  refine (HD _).mono ?_
  rintro e w2 ⟨rfl, hb2⟩
  have B2 : Below w.heap.size w w2 := (B1).trans (hb2.mono (B1).size)
  have p2 := (p1).below hb2 (p1).lt
  clear hb2 B1 p1
  have p2c0 := p2.cell 0
  have p2c1 := p2.cell 1
  have p2c2 := p2.cell 2
  simp only [List.getElem?_toArray, List.getElem?_cons_zero, List.getElem?_cons_succ] at p2c0 p2c1 p2c2
  have z1 := fun o => (p2.alloc o).cell 0
  have z2 := fun o => (p2.alloc o).cell 1
  have z3 := fun o => (p2.alloc o).cell 2
  simp only [List.getElem?_toArray, List.getElem?_cons_zero, List.getElem?_cons_succ] at z1 z2 z3
  go_wp2_with fail
  refine (HH _).mono ?_
  rintro e w3 ⟨rfl, hb3⟩
  have B3 : Below w.heap.size w w3 := (((B2).alloc (B2).size (.cells #[.int .i64 xn, .bool xa, .bool xb, .bool true, .bool false] 47))).trans (hb3.mono (((B2).alloc (B2).size (.cells #[.int .i64 xn, .bool xa, .bool xb, .bool true, .bool false] 47))).size)
  have p3 := (((p2).alloc (.cells #[.int .i64 xn, .bool xa, .bool xb, .bool true, .bool false] 47))).below hb3 (((p2).alloc (.cells #[.int .i64 xn, .bool xa, .bool xb, .bool true, .bool false] 47))).lt
  have q3 := (Blk.new w2 47 #[.int .i64 xn, .bool xa, .bool xb, .bool true, .bool false]).below hb3 (Blk.new w2 47 #[.int .i64 xn, .bool xa, .bool xb, .bool true, .bool false]).lt
  clear hb3 B2 p2
  have p3c0 := p3.cell 0
  have p3c1 := p3.cell 1
  have p3c2 := p3.cell 2
  simp only [List.getElem?_toArray, List.getElem?_cons_zero, List.getElem?_cons_succ] at p3c0 p3c1 p3c2
  have q3c0 := q3.cell 0
  have q3c1 := q3.cell 1
  have q3c2 := q3.cell 2
  have q3c3 := q3.cell 3
  have q3c4 := q3.cell 4
  simp only [List.getElem?_toArray, List.getElem?_cons_zero, List.getElem?_cons_succ] at q3c0 q3c1 q3c2 q3c3 q3c4
  clear z1 z2 z3
  have zp0 := fun o => (p3.alloc o).cell 0
  have zp1 := fun o => (p3.alloc o).cell 1
  have zp2 := fun o => (p3.alloc o).cell 2
  have zq0 := fun o => (q3.alloc o).cell 0
  have zq1 := fun o => (q3.alloc o).cell 1
  have zq2 := fun o => (q3.alloc o).cell 2
  have zq3 := fun o => (q3.alloc o).cell 3
  have zq4 := fun o => (q3.alloc o).cell 4
  simp only [List.getElem?_toArray, List.getElem?_cons_zero, List.getElem?_cons_succ] at zp0 zp1 zp2 zq0 zq1 zq2 zq3 zq4
  go_wp2_with fail
  refine (HD2 _).mono ?_
  rintro e w4 ⟨rfl, hb4⟩
  have B4 : Below w.heap.size w w4 := (((B3).alloc (B3).size (.cells #[.int .i64 n, .bool a, .bool b, .bool false, .bool ye] 47))).trans (hb4.mono (((B3).alloc (B3).size (.cells #[.int .i64 n, .bool a, .bool b, .bool false, .bool ye] 47))).size)
  have p4 := (((p3).alloc (.cells #[.int .i64 n, .bool a, .bool b, .bool false, .bool ye] 47))).below hb4 (((p3).alloc (.cells #[.int .i64 n, .bool a, .bool b, .bool false, .bool ye] 47))).lt
  have q4 := (((q3).alloc (.cells #[.int .i64 n, .bool a, .bool b, .bool false, .bool ye] 47))).below hb4 (((q3).alloc (.cells #[.int .i64 n, .bool a, .bool b, .bool false, .bool ye] 47))).lt
  have r4 := (Blk.new w3 47 #[.int .i64 n, .bool a, .bool b, .bool false, .bool ye]).below hb4 (Blk.new w3 47 #[.int .i64 n, .bool a, .bool b, .bool false, .bool ye]).lt
  clear hb4 B3 p3 q3
  clear zp0 zp1 zp2 zq0 zq1 zq2 zq3 zq4
  have p4c0 := p4.cell 0
  have p4c1 := p4.cell 1
  have p4c2 := p4.cell 2
  simp only [List.getElem?_toArray, List.getElem?_cons_zero, List.getElem?_cons_succ] at p4c0 p4c1 p4c2
  have q4c0 := q4.cell 0
  have q4c1 := q4.cell 1
  have q4c2 := q4.cell 2
  have q4c3 := q4.cell 3
  have q4c4 := q4.cell 4
  simp only [List.getElem?_toArray, List.getElem?_cons_zero, List.getElem?_cons_succ] at q4c0 q4c1 q4c2 q4c3 q4c4
  have r4c0 := r4.cell 0
  have r4c1 := r4.cell 1
  have r4c2 := r4.cell 2
  have r4c3 := r4.cell 3
  have r4c4 := r4.cell 4
  simp only [List.getElem?_toArray, List.getElem?_cons_zero, List.getElem?_cons_succ] at r4c0 r4c1 r4c2 r4c3 r4c4
  have zp0 := fun o => (p4.alloc o).cell 0
  have zp1 := fun o => (p4.alloc o).cell 1
  have zp2 := fun o => (p4.alloc o).cell 2
  have zq0 := fun o => (q4.alloc o).cell 0
  have zq1 := fun o => (q4.alloc o).cell 1
  have zq2 := fun o => (q4.alloc o).cell 2
  have zq3 := fun o => (q4.alloc o).cell 3
  have zq4 := fun o => (q4.alloc o).cell 4
  have zr0 := fun o => (r4.alloc o).cell 0
  have zr1 := fun o => (r4.alloc o).cell 1
  have zr2 := fun o => (r4.alloc o).cell 2
  have zr3 := fun o => (r4.alloc o).cell 3
  have zr4 := fun o => (r4.alloc o).cell 4
  simp only [List.getElem?_toArray, List.getElem?_cons_zero, List.getElem?_cons_succ] at zp0 zp1 zp2 zq0 zq1 zq2 zq3 zq4 zr0 zr1 zr2 zr3 zr4
  go_wp2_with fail
  refine (HH2 _).mono ?_
  rintro e w5 ⟨rfl, hb5⟩
  have B5 : Below w.heap.size w w5 := (((B4).alloc (B4).size (.cells #[.int .i64 xn, .bool xa, .bool xb, .bool false, .bool false] 47))).trans (hb5.mono (((B4).alloc (B4).size (.cells #[.int .i64 xn, .bool xa, .bool xb, .bool false, .bool false] 47))).size)
  have p5 := (((p4).alloc (.cells #[.int .i64 xn, .bool xa, .bool xb, .bool false, .bool false] 47))).below hb5 (((p4).alloc (.cells #[.int .i64 xn, .bool xa, .bool xb, .bool false, .bool false] 47))).lt
  have q5 := (((q4).alloc (.cells #[.int .i64 xn, .bool xa, .bool xb, .bool false, .bool false] 47))).below hb5 (((q4).alloc (.cells #[.int .i64 xn, .bool xa, .bool xb, .bool false, .bool false] 47))).lt
  have r5 := (((r4).alloc (.cells #[.int .i64 xn, .bool xa, .bool xb, .bool false, .bool false] 47))).below hb5 (((r4).alloc (.cells #[.int .i64 xn, .bool xa, .bool xb, .bool false, .bool false] 47))).lt
  have t5 := (Blk.new w4 47 #[.int .i64 xn, .bool xa, .bool xb, .bool false, .bool false]).below hb5 (Blk.new w4 47 #[.int .i64 xn, .bool xa, .bool xb, .bool false, .bool false]).lt
  clear hb5 B4 p4 q4 r4
  clear zp0 zp1 zp2 zq0 zq1 zq2 zq3 zq4 zr0 zr1 zr2 zr3 zr4
  have p5c0 := p5.cell 0
  have p5c1 := p5.cell 1
  have p5c2 := p5.cell 2
  simp only [List.getElem?_toArray, List.getElem?_cons_zero, List.getElem?_cons_succ] at p5c0 p5c1 p5c2
  have q5c0 := q5.cell 0
  have q5c1 := q5.cell 1
  have q5c2 := q5.cell 2
  have q5c3 := q5.cell 3
  have q5c4 := q5.cell 4
  simp only [List.getElem?_toArray, List.getElem?_cons_zero, List.getElem?_cons_succ] at q5c0 q5c1 q5c2 q5c3 q5c4
  have r5c0 := r5.cell 0
  have r5c1 := r5.cell 1
  have r5c2 := r5.cell 2
  have r5c3 := r5.cell 3
  have r5c4 := r5.cell 4
  simp only [List.getElem?_toArray, List.getElem?_cons_zero, List.getElem?_cons_succ] at r5c0 r5c1 r5c2 r5c3 r5c4
  have t5c0 := t5.cell 0
  have t5c1 := t5.cell 1
  have t5c2 := t5.cell 2
  have t5c3 := t5.cell 3
  have t5c4 := t5.cell 4
  simp only [List.getElem?_toArray, List.getElem?_cons_zero, List.getElem?_cons_succ] at t5c0 t5c1 t5c2 t5c3 t5c4
  have zp0 := fun o => (p5.alloc o).cell 0
  have zp1 := fun o => (p5.alloc o).cell 1
  have zp2 := fun o => (p5.alloc o).cell 2
  have zq0 := fun o => (q5.alloc o).cell 0
  have zq1 := fun o => (q5.alloc o).cell 1
  have zq2 := fun o => (q5.alloc o).cell 2
  have zq3 := fun o => (q5.alloc o).cell 3
  have zq4 := fun o => (q5.alloc o).cell 4
  have zr0 := fun o => (r5.alloc o).cell 0
  have zr1 := fun o => (r5.alloc o).cell 1
  have zr2 := fun o => (r5.alloc o).cell 2
  have zr3 := fun o => (r5.alloc o).cell 3
  have zr4 := fun o => (r5.alloc o).cell 4
  have zt0 := fun o => (t5.alloc o).cell 0
  have zt1 := fun o => (t5.alloc o).cell 1
  have zt2 := fun o => (t5.alloc o).cell 2
  have zt3 := fun o => (t5.alloc o).cell 3
  have zt4 := fun o => (t5.alloc o).cell 4
  simp only [List.getElem?_toArray, List.getElem?_cons_zero, List.getElem?_cons_succ] at zp0 zp1 zp2 zq0 zq1 zq2 zq3 zq4 zr0 zr1 zr2 zr3 zr4 zt0 zt1 zt2 zt3 zt4
  go_wp2
  go_ret
  exact ⟨rfl, B5.alloc B5.size _⟩

set_option maxHeartbeats 1000000 in
theorem still5 (n : Int) (a b : Bool) (act : Int) (yn : Int) (ya yb : Bool) (de : Bool) (k : act = 1) (HD : Hid (Ans 21 n a b act n a b false false 0)) (HH : Hid (Ans 22 n a b act yn ya yb true false 0)) (HD2 : Hid (Ans 21 n a b act n a b true false 0)) (HH2 : Hid (Ans 22 yn ya yb act yn ya yb false de 0)) (w : World) :
    Calls Try.prog 7 #[S n a b, .int .i64 act] w fun e w' => e = .returned (.bool true) ∧ Below w.heap.size w w' := by
  subst k
  go_enter Try.func7, Try.ntmps7
  go_wp2_with fail
  refine (lives_any _).mono ?_
  rintro e w1 ⟨rfl, hb1⟩
  have B1 : Below w.heap.size w w1 := ((((Below.refl w.heap.size w)).alloc ((Below.refl w.heap.size w)).size (.cells #[.int .i64 n, .bool a, .bool b] 23))).trans (hb1.mono ((((Below.refl w.heap.size w)).alloc ((Below.refl w.heap.size w)).size (.cells #[.int .i64 n, .bool a, .bool b] 23))).size)
  have p1 := (Blk.new w 23 #[.int .i64 n, .bool a, .bool b]).below hb1 (Blk.new w 23 #[.int .i64 n, .bool a, .bool b]).lt
  clear hb1
  have p1c0 := p1.cell 0
  have p1c1 := p1.cell 1
  have p1c2 := p1.cell 2
  simp only [List.getElem?_toArray, List.getElem?_cons_zero, List.getElem?_cons_succ] at p1c0 p1c1 p1c2
  go_wp2_with fail
  refine (HD _).mono ?_
  rintro e w2 ⟨rfl, hb2⟩
  have B2 : Below w.heap.size w w2 := (B1).trans (hb2.mono (B1).size)
  have p2 := (p1).below hb2 (p1).lt
  clear hb2 B1 p1
  have p2c0 := p2.cell 0
  have p2c1 := p2.cell 1
  have p2c2 := p2.cell 2
  simp only [List.getElem?_toArray, List.getElem?_cons_zero, List.getElem?_cons_succ] at p2c0 p2c1 p2c2
  have z1 := fun o => (p2.alloc o).cell 0
  have z2 := fun o => (p2.alloc o).cell 1
  have z3 := fun o => (p2.alloc o).cell 2
  simp only [List.getElem?_toArray, List.getElem?_cons_zero, List.getElem?_cons_succ] at z1 z2 z3
  go_wp2_with fail
  refine (HH _).mono ?_
  rintro e w3 ⟨rfl, hb3⟩
  have B3 : Below w.heap.size w w3 := (((B2).alloc (B2).size (.cells #[.int .i64 n, .bool a, .bool b, .bool false, .bool false] 47))).trans (hb3.mono (((B2).alloc (B2).size (.cells #[.int .i64 n, .bool a, .bool b, .bool false, .bool false] 47))).size)
  have p3 := (((p2).alloc (.cells #[.int .i64 n, .bool a, .bool b, .bool false, .bool false] 47))).below hb3 (((p2).alloc (.cells #[.int .i64 n, .bool a, .bool b, .bool false, .bool false] 47))).lt
  have q3 := (Blk.new w2 47 #[.int .i64 n, .bool a, .bool b, .bool false, .bool false]).below hb3 (Blk.new w2 47 #[.int .i64 n, .bool a, .bool b, .bool false, .bool false]).lt
  clear hb3 B2 p2
  have p3c0 := p3.cell 0
  have p3c1 := p3.cell 1
  have p3c2 := p3.cell 2
  simp only [List.getElem?_toArray, List.getElem?_cons_zero, List.getElem?_cons_succ] at p3c0 p3c1 p3c2
  have q3c0 := q3.cell 0
  have q3c1 := q3.cell 1
  have q3c2 := q3.cell 2
  have q3c3 := q3.cell 3
  have q3c4 := q3.cell 4
  simp only [List.getElem?_toArray, List.getElem?_cons_zero, List.getElem?_cons_succ] at q3c0 q3c1 q3c2 q3c3 q3c4
  clear z1 z2 z3
  have zp0 := fun o => (p3.alloc o).cell 0
  have zp1 := fun o => (p3.alloc o).cell 1
  have zp2 := fun o => (p3.alloc o).cell 2
  have zq0 := fun o => (q3.alloc o).cell 0
  have zq1 := fun o => (q3.alloc o).cell 1
  have zq2 := fun o => (q3.alloc o).cell 2
  have zq3 := fun o => (q3.alloc o).cell 3
  have zq4 := fun o => (q3.alloc o).cell 4
  simp only [List.getElem?_toArray, List.getElem?_cons_zero, List.getElem?_cons_succ] at zp0 zp1 zp2 zq0 zq1 zq2 zq3 zq4
  go_wp2_with fail
  refine (HD2 _).mono ?_
  rintro e w4 ⟨rfl, hb4⟩
  have B4 : Below w.heap.size w w4 := (((B3).alloc (B3).size (.cells #[.int .i64 yn, .bool ya, .bool yb, .bool true, .bool false] 47))).trans (hb4.mono (((B3).alloc (B3).size (.cells #[.int .i64 yn, .bool ya, .bool yb, .bool true, .bool false] 47))).size)
  have p4 := (((p3).alloc (.cells #[.int .i64 yn, .bool ya, .bool yb, .bool true, .bool false] 47))).below hb4 (((p3).alloc (.cells #[.int .i64 yn, .bool ya, .bool yb, .bool true, .bool false] 47))).lt
  have q4 := (((q3).alloc (.cells #[.int .i64 yn, .bool ya, .bool yb, .bool true, .bool false] 47))).below hb4 (((q3).alloc (.cells #[.int .i64 yn, .bool ya, .bool yb, .bool true, .bool false] 47))).lt
  have r4 := (Blk.new w3 47 #[.int .i64 yn, .bool ya, .bool yb, .bool true, .bool false]).below hb4 (Blk.new w3 47 #[.int .i64 yn, .bool ya, .bool yb, .bool true, .bool false]).lt
  clear hb4 B3 p3 q3
  clear zp0 zp1 zp2 zq0 zq1 zq2 zq3 zq4
  have p4c0 := p4.cell 0
  have p4c1 := p4.cell 1
  have p4c2 := p4.cell 2
  simp only [List.getElem?_toArray, List.getElem?_cons_zero, List.getElem?_cons_succ] at p4c0 p4c1 p4c2
  have q4c0 := q4.cell 0
  have q4c1 := q4.cell 1
  have q4c2 := q4.cell 2
  have q4c3 := q4.cell 3
  have q4c4 := q4.cell 4
  simp only [List.getElem?_toArray, List.getElem?_cons_zero, List.getElem?_cons_succ] at q4c0 q4c1 q4c2 q4c3 q4c4
  have r4c0 := r4.cell 0
  have r4c1 := r4.cell 1
  have r4c2 := r4.cell 2
  have r4c3 := r4.cell 3
  have r4c4 := r4.cell 4
  simp only [List.getElem?_toArray, List.getElem?_cons_zero, List.getElem?_cons_succ] at r4c0 r4c1 r4c2 r4c3 r4c4
  have zp0 := fun o => (p4.alloc o).cell 0
  have zp1 := fun o => (p4.alloc o).cell 1
  have zp2 := fun o => (p4.alloc o).cell 2
  have zq0 := fun o => (q4.alloc o).cell 0
  have zq1 := fun o => (q4.alloc o).cell 1
  have zq2 := fun o => (q4.alloc o).cell 2
  have zq3 := fun o => (q4.alloc o).cell 3
  have zq4 := fun o => (q4.alloc o).cell 4
  have zr0 := fun o => (r4.alloc o).cell 0
  have zr1 := fun o => (r4.alloc o).cell 1
  have zr2 := fun o => (r4.alloc o).cell 2
  have zr3 := fun o => (r4.alloc o).cell 3
  have zr4 := fun o => (r4.alloc o).cell 4
  simp only [List.getElem?_toArray, List.getElem?_cons_zero, List.getElem?_cons_succ] at zp0 zp1 zp2 zq0 zq1 zq2 zq3 zq4 zr0 zr1 zr2 zr3 zr4
  go_wp2_with fail
  refine (HH2 _).mono ?_
  rintro e w5 ⟨rfl, hb5⟩
  have B5 : Below w.heap.size w w5 := (((B4).alloc (B4).size (.cells #[.int .i64 n, .bool a, .bool b, .bool true, .bool false] 47))).trans (hb5.mono (((B4).alloc (B4).size (.cells #[.int .i64 n, .bool a, .bool b, .bool true, .bool false] 47))).size)
  have p5 := (((p4).alloc (.cells #[.int .i64 n, .bool a, .bool b, .bool true, .bool false] 47))).below hb5 (((p4).alloc (.cells #[.int .i64 n, .bool a, .bool b, .bool true, .bool false] 47))).lt
  have q5 := (((q4).alloc (.cells #[.int .i64 n, .bool a, .bool b, .bool true, .bool false] 47))).below hb5 (((q4).alloc (.cells #[.int .i64 n, .bool a, .bool b, .bool true, .bool false] 47))).lt
  have r5 := (((r4).alloc (.cells #[.int .i64 n, .bool a, .bool b, .bool true, .bool false] 47))).below hb5 (((r4).alloc (.cells #[.int .i64 n, .bool a, .bool b, .bool true, .bool false] 47))).lt
  have t5 := (Blk.new w4 47 #[.int .i64 n, .bool a, .bool b, .bool true, .bool false]).below hb5 (Blk.new w4 47 #[.int .i64 n, .bool a, .bool b, .bool true, .bool false]).lt
  clear hb5 B4 p4 q4 r4
  clear zp0 zp1 zp2 zq0 zq1 zq2 zq3 zq4 zr0 zr1 zr2 zr3 zr4
  have p5c0 := p5.cell 0
  have p5c1 := p5.cell 1
  have p5c2 := p5.cell 2
  simp only [List.getElem?_toArray, List.getElem?_cons_zero, List.getElem?_cons_succ] at p5c0 p5c1 p5c2
  have q5c0 := q5.cell 0
  have q5c1 := q5.cell 1
  have q5c2 := q5.cell 2
  have q5c3 := q5.cell 3
  have q5c4 := q5.cell 4
  simp only [List.getElem?_toArray, List.getElem?_cons_zero, List.getElem?_cons_succ] at q5c0 q5c1 q5c2 q5c3 q5c4
  have r5c0 := r5.cell 0
  have r5c1 := r5.cell 1
  have r5c2 := r5.cell 2
  have r5c3 := r5.cell 3
  have r5c4 := r5.cell 4
  simp only [List.getElem?_toArray, List.getElem?_cons_zero, List.getElem?_cons_succ] at r5c0 r5c1 r5c2 r5c3 r5c4
  have t5c0 := t5.cell 0
  have t5c1 := t5.cell 1
  have t5c2 := t5.cell 2
  have t5c3 := t5.cell 3
  have t5c4 := t5.cell 4
  simp only [List.getElem?_toArray, List.getElem?_cons_zero, List.getElem?_cons_succ] at t5c0 t5c1 t5c2 t5c3 t5c4
  have zp0 := fun o => (p5.alloc o).cell 0
  have zp1 := fun o => (p5.alloc o).cell 1
  have zp2 := fun o => (p5.alloc o).cell 2
  have zq0 := fun o => (q5.alloc o).cell 0
  have zq1 := fun o => (q5.alloc o).cell 1
  have zq2 := fun o => (q5.alloc o).cell 2
  have zq3 := fun o => (q5.alloc o).cell 3
  have zq4 := fun o => (q5.alloc o).cell 4
  have zr0 := fun o => (r5.alloc o).cell 0
  have zr1 := fun o => (r5.alloc o).cell 1
  have zr2 := fun o => (r5.alloc o).cell 2
  have zr3 := fun o => (r5.alloc o).cell 3
  have zr4 := fun o => (r5.alloc o).cell 4
  have zt0 := fun o => (t5.alloc o).cell 0
  have zt1 := fun o => (t5.alloc o).cell 1
  have zt2 := fun o => (t5.alloc o).cell 2
  have zt3 := fun o => (t5.alloc o).cell 3
  have zt4 := fun o => (t5.alloc o).cell 4
  simp only [List.getElem?_toArray, List.getElem?_cons_zero, List.getElem?_cons_succ] at zp0 zp1 zp2 zq0 zq1 zq2 zq3 zq4 zr0 zr1 zr2 zr3 zr4 zt0 zt1 zt2 zt3 zt4
  go_wp2
  go_ret
  exact ⟨rfl, B5.alloc B5.size _⟩

set_option maxHeartbeats 1000000 in
theorem still6 (n : Int) (a b : Bool) (act : Int) (yn : Int) (ya yb : Bool) (de : Bool) (k : (act == 1) = false) (HD : Hid (Ans 21 n a b act n a b false false 0)) (HH : Hid (Ans 22 n a b act yn ya yb true false 0)) (HD2 : Hid (Ans 21 n a b act n a b false false 0)) (HH2 : Hid (Ans 22 yn ya yb act yn ya yb false de 0)) (w : World) :
    Calls Try.prog 7 #[S n a b, .int .i64 act] w fun e w' => e = .returned (.bool true) ∧ Below w.heap.size w w' := by
  go_enter Try.func7, Try.ntmps7
  go_wp2_with fail
  refine (lives_any _).mono ?_
  rintro e w1 ⟨rfl, hb1⟩
  have B1 : Below w.heap.size w w1 := ((((Below.refl w.heap.size w)).alloc ((Below.refl w.heap.size w)).size (.cells #[.int .i64 n, .bool a, .bool b] 23))).trans (hb1.mono ((((Below.refl w.heap.size w)).alloc ((Below.refl w.heap.size w)).size (.cells #[.int .i64 n, .bool a, .bool b] 23))).size)
  have p1 := (Blk.new w 23 #[.int .i64 n, .bool a, .bool b]).below hb1 (Blk.new w 23 #[.int .i64 n, .bool a, .bool b]).lt
  clear hb1
  have p1c0 := p1.cell 0
  have p1c1 := p1.cell 1
  have p1c2 := p1.cell 2
  simp only [List.getElem?_toArray, List.getElem?_cons_zero, List.getElem?_cons_succ] at p1c0 p1c1 p1c2
  go_wp2_with fail
  refine (HD _).mono ?_
  rintro e w2 ⟨rfl, hb2⟩
  have B2 : Below w.heap.size w w2 := (B1).trans (hb2.mono (B1).size)
  have p2 := (p1).below hb2 (p1).lt
  clear hb2 B1 p1
  have p2c0 := p2.cell 0
  have p2c1 := p2.cell 1
  have p2c2 := p2.cell 2
  simp only [List.getElem?_toArray, List.getElem?_cons_zero, List.getElem?_cons_succ] at p2c0 p2c1 p2c2
  have z1 := fun o => (p2.alloc o).cell 0
  have z2 := fun o => (p2.alloc o).cell 1
  have z3 := fun o => (p2.alloc o).cell 2
  simp only [List.getElem?_toArray, List.getElem?_cons_zero, List.getElem?_cons_succ] at z1 z2 z3
  go_wp2_with fail
  refine (HH _).mono ?_
  rintro e w3 ⟨rfl, hb3⟩
  have B3 : Below w.heap.size w w3 := (((B2).alloc (B2).size (.cells #[.int .i64 n, .bool a, .bool b, .bool false, .bool false] 47))).trans (hb3.mono (((B2).alloc (B2).size (.cells #[.int .i64 n, .bool a, .bool b, .bool false, .bool false] 47))).size)
  have p3 := (((p2).alloc (.cells #[.int .i64 n, .bool a, .bool b, .bool false, .bool false] 47))).below hb3 (((p2).alloc (.cells #[.int .i64 n, .bool a, .bool b, .bool false, .bool false] 47))).lt
  have q3 := (Blk.new w2 47 #[.int .i64 n, .bool a, .bool b, .bool false, .bool false]).below hb3 (Blk.new w2 47 #[.int .i64 n, .bool a, .bool b, .bool false, .bool false]).lt
  clear hb3 B2 p2
  have p3c0 := p3.cell 0
  have p3c1 := p3.cell 1
  have p3c2 := p3.cell 2
  simp only [List.getElem?_toArray, List.getElem?_cons_zero, List.getElem?_cons_succ] at p3c0 p3c1 p3c2
  have q3c0 := q3.cell 0
  have q3c1 := q3.cell 1
  have q3c2 := q3.cell 2
  have q3c3 := q3.cell 3
  have q3c4 := q3.cell 4
  simp only [List.getElem?_toArray, List.getElem?_cons_zero, List.getElem?_cons_succ] at q3c0 q3c1 q3c2 q3c3 q3c4
  clear z1 z2 z3
  have zp0 := fun o => (p3.alloc o).cell 0
  have zp1 := fun o => (p3.alloc o).cell 1
  have zp2 := fun o => (p3.alloc o).cell 2
  have zq0 := fun o => (q3.alloc o).cell 0
  have zq1 := fun o => (q3.alloc o).cell 1
  have zq2 := fun o => (q3.alloc o).cell 2
  have zq3 := fun o => (q3.alloc o).cell 3
  have zq4 := fun o => (q3.alloc o).cell 4
  simp only [List.getElem?_toArray, List.getElem?_cons_zero, List.getElem?_cons_succ] at zp0 zp1 zp2 zq0 zq1 zq2 zq3 zq4
  go_wp2_with fail
  refine (HD2 _).mono ?_
  rintro e w4 ⟨rfl, hb4⟩
  have B4 : Below w.heap.size w w4 := (((B3).alloc (B3).size (.cells #[.int .i64 yn, .bool ya, .bool yb, .bool true, .bool false] 47))).trans (hb4.mono (((B3).alloc (B3).size (.cells #[.int .i64 yn, .bool ya, .bool yb, .bool true, .bool false] 47))).size)
  have p4 := (((p3).alloc (.cells #[.int .i64 yn, .bool ya, .bool yb, .bool true, .bool false] 47))).below hb4 (((p3).alloc (.cells #[.int .i64 yn, .bool ya, .bool yb, .bool true, .bool false] 47))).lt
  have q4 := (((q3).alloc (.cells #[.int .i64 yn, .bool ya, .bool yb, .bool true, .bool false] 47))).below hb4 (((q3).alloc (.cells #[.int .i64 yn, .bool ya, .bool yb, .bool true, .bool false] 47))).lt
  have r4 := (Blk.new w3 47 #[.int .i64 yn, .bool ya, .bool yb, .bool true, .bool false]).below hb4 (Blk.new w3 47 #[.int .i64 yn, .bool ya, .bool yb, .bool true, .bool false]).lt
  clear hb4 B3 p3 q3
  clear zp0 zp1 zp2 zq0 zq1 zq2 zq3 zq4
  have p4c0 := p4.cell 0
  have p4c1 := p4.cell 1
  have p4c2 := p4.cell 2
  simp only [List.getElem?_toArray, List.getElem?_cons_zero, List.getElem?_cons_succ] at p4c0 p4c1 p4c2
  have q4c0 := q4.cell 0
  have q4c1 := q4.cell 1
  have q4c2 := q4.cell 2
  have q4c3 := q4.cell 3
  have q4c4 := q4.cell 4
  simp only [List.getElem?_toArray, List.getElem?_cons_zero, List.getElem?_cons_succ] at q4c0 q4c1 q4c2 q4c3 q4c4
  have r4c0 := r4.cell 0
  have r4c1 := r4.cell 1
  have r4c2 := r4.cell 2
  have r4c3 := r4.cell 3
  have r4c4 := r4.cell 4
  simp only [List.getElem?_toArray, List.getElem?_cons_zero, List.getElem?_cons_succ] at r4c0 r4c1 r4c2 r4c3 r4c4
  have zp0 := fun o => (p4.alloc o).cell 0
  have zp1 := fun o => (p4.alloc o).cell 1
  have zp2 := fun o => (p4.alloc o).cell 2
  have zq0 := fun o => (q4.alloc o).cell 0
  have zq1 := fun o => (q4.alloc o).cell 1
  have zq2 := fun o => (q4.alloc o).cell 2
  have zq3 := fun o => (q4.alloc o).cell 3
  have zq4 := fun o => (q4.alloc o).cell 4
  have zr0 := fun o => (r4.alloc o).cell 0
  have zr1 := fun o => (r4.alloc o).cell 1
  have zr2 := fun o => (r4.alloc o).cell 2
  have zr3 := fun o => (r4.alloc o).cell 3
  have zr4 := fun o => (r4.alloc o).cell 4
  simp only [List.getElem?_toArray, List.getElem?_cons_zero, List.getElem?_cons_succ] at zp0 zp1 zp2 zq0 zq1 zq2 zq3 zq4 zr0 zr1 zr2 zr3 zr4
  go_wp2_with fail
  refine (HH2 _).mono ?_
  rintro e w5 ⟨rfl, hb5⟩
  have B5 : Below w.heap.size w w5 := (((B4).alloc (B4).size (.cells #[.int .i64 n, .bool a, .bool b, .bool false, .bool false] 47))).trans (hb5.mono (((B4).alloc (B4).size (.cells #[.int .i64 n, .bool a, .bool b, .bool false, .bool false] 47))).size)
  have p5 := (((p4).alloc (.cells #[.int .i64 n, .bool a, .bool b, .bool false, .bool false] 47))).below hb5 (((p4).alloc (.cells #[.int .i64 n, .bool a, .bool b, .bool false, .bool false] 47))).lt
  have q5 := (((q4).alloc (.cells #[.int .i64 n, .bool a, .bool b, .bool false, .bool false] 47))).below hb5 (((q4).alloc (.cells #[.int .i64 n, .bool a, .bool b, .bool false, .bool false] 47))).lt
  have r5 := (((r4).alloc (.cells #[.int .i64 n, .bool a, .bool b, .bool false, .bool false] 47))).below hb5 (((r4).alloc (.cells #[.int .i64 n, .bool a, .bool b, .bool false, .bool false] 47))).lt
  have t5 := (Blk.new w4 47 #[.int .i64 n, .bool a, .bool b, .bool false, .bool false]).below hb5 (Blk.new w4 47 #[.int .i64 n, .bool a, .bool b, .bool false, .bool false]).lt
  clear hb5 B4 p4 q4 r4
  clear zp0 zp1 zp2 zq0 zq1 zq2 zq3 zq4 zr0 zr1 zr2 zr3 zr4
  have p5c0 := p5.cell 0
  have p5c1 := p5.cell 1
  have p5c2 := p5.cell 2
  simp only [List.getElem?_toArray, List.getElem?_cons_zero, List.getElem?_cons_succ] at p5c0 p5c1 p5c2
  have q5c0 := q5.cell 0
  have q5c1 := q5.cell 1
  have q5c2 := q5.cell 2
  have q5c3 := q5.cell 3
  have q5c4 := q5.cell 4
  simp only [List.getElem?_toArray, List.getElem?_cons_zero, List.getElem?_cons_succ] at q5c0 q5c1 q5c2 q5c3 q5c4
  have r5c0 := r5.cell 0
  have r5c1 := r5.cell 1
  have r5c2 := r5.cell 2
  have r5c3 := r5.cell 3
  have r5c4 := r5.cell 4
  simp only [List.getElem?_toArray, List.getElem?_cons_zero, List.getElem?_cons_succ] at r5c0 r5c1 r5c2 r5c3 r5c4
  have t5c0 := t5.cell 0
  have t5c1 := t5.cell 1
  have t5c2 := t5.cell 2
  have t5c3 := t5.cell 3
  have t5c4 := t5.cell 4
  simp only [List.getElem?_toArray, List.getElem?_cons_zero, List.getElem?_cons_succ] at t5c0 t5c1 t5c2 t5c3 t5c4
  have zp0 := fun o => (p5.alloc o).cell 0
  have zp1 := fun o => (p5.alloc o).cell 1
  have zp2 := fun o => (p5.alloc o).cell 2
  have zq0 := fun o => (q5.alloc o).cell 0
  have zq1 := fun o => (q5.alloc o).cell 1
  have zq2 := fun o => (q5.alloc o).cell 2
  have zq3 := fun o => (q5.alloc o).cell 3
  have zq4 := fun o => (q5.alloc o).cell 4
  have zr0 := fun o => (r5.alloc o).cell 0
  have zr1 := fun o => (r5.alloc o).cell 1
  have zr2 := fun o => (r5.alloc o).cell 2
  have zr3 := fun o => (r5.alloc o).cell 3
  have zr4 := fun o => (r5.alloc o).cell 4
  have zt0 := fun o => (t5.alloc o).cell 0
  have zt1 := fun o => (t5.alloc o).cell 1
  have zt2 := fun o => (t5.alloc o).cell 2
  have zt3 := fun o => (t5.alloc o).cell 3
  have zt4 := fun o => (t5.alloc o).cell 4
  simp only [List.getElem?_toArray, List.getElem?_cons_zero, List.getElem?_cons_succ] at zp0 zp1 zp2 zq0 zq1 zq2 zq3 zq4 zr0 zr1 zr2 zr3 zr4 zt0 zt1 zt2 zt3 zt4
  go_wp2
  go_ret
  exact ⟨rfl, B5.alloc B5.size _⟩

set_option maxHeartbeats 1000000 in
theorem still7 (n : Int) (a b : Bool) (act : Int) (ye : Bool) (de : Bool) (k : act = 1) (HD : Hid (Ans 21 n a b act n a b false false 0)) (HH : Hid (Ans 22 n a b act n a b false ye 0)) (HD2 : Hid (Ans 21 n a b act n a b true false 0)) (HH2 : Hid (Ans 22 n a b act n a b false de 0)) (w : World) :
    Calls Try.prog 7 #[S n a b, .int .i64 act] w fun e w' => e = .returned (.bool true) ∧ Below w.heap.size w w' := by
  subst k
  go_enter Try.func7, Try.ntmps7
  go_wp2_with fail
  refine (lives_any _).mono ?_
  rintro e w1 ⟨rfl, hb1⟩
  have B1 : Below w.heap.size w w1 := ((((Below.refl w.heap.size w)).alloc ((Below.refl w.heap.size w)).size (.cells #[.int .i64 n, .bool a, .bool b] 23))).trans (hb1.mono ((((Below.refl w.heap.size w)).alloc ((Below.refl w.heap.size w)).size (.cells #[.int .i64 n, .bool a, .bool b] 23))).size)
  have p1 := (Blk.new w 23 #[.int .i64 n, .bool a, .bool b]).below hb1 (Blk.new w 23 #[.int .i64 n, .bool a, .bool b]).lt
  clear hb1
  have p1c0 := p1.cell 0
  have p1c1 := p1.cell 1
  have p1c2 := p1.cell 2
  simp only [List.getElem?_toArray, List.getElem?_cons_zero, List.getElem?_cons_succ] at p1c0 p1c1 p1c2
  go_wp2_with fail
  refine (HD _).mono ?_
  rintro e w2 ⟨rfl, hb2⟩
  have B2 : Below w.heap.size w w2 := (B1).trans (hb2.mono (B1).size)
  have p2 := (p1).below hb2 (p1).lt
  clear hb2 B1 p1
  have p2c0 := p2.cell 0
  have p2c1 := p2.cell 1
  have p2c2 := p2.cell 2
  simp only [List.getElem?_toArray, List.getElem?_cons_zero, List.getElem?_cons_succ] at p2c0 p2c1 p2c2
  have z1 := fun o => (p2.alloc o).cell 0
  have z2 := fun o => (p2.alloc o).cell 1
  have z3 := fun o => (p2.alloc o).cell 2
  simp only [List.getElem?_toArray, List.getElem?_cons_zero, List.getElem?_cons_succ] at z1 z2 z3
  go_wp2_with fail
  refine (HH _).mono ?_
  rintro e w3 ⟨rfl, hb3⟩
  have B3 : Below w.heap.size w w3 := (((B2).alloc (B2).size (.cells #[.int .i64 n, .bool a, .bool b, .bool false, .bool false] 47))).trans (hb3.mono (((B2).alloc (B2).size (.cells #[.int .i64 n, .bool a, .bool b, .bool false, .bool false] 47))).size)
  have p3 := (((p2).alloc (.cells #[.int .i64 n, .bool a, .bool b, .bool false, .bool false] 47))).below hb3 (((p2).alloc (.cells #[.int .i64 n, .bool a, .bool b, .bool false, .bool false] 47))).lt
  have q3 := (Blk.new w2 47 #[.int .i64 n, .bool a, .bool b, .bool false, .bool false]).below hb3 (Blk.new w2 47 #[.int .i64 n, .bool a, .bool b, .bool false, .bool false]).lt
  clear hb3 B2 p2
  have p3c0 := p3.cell 0
  have p3c1 := p3.cell 1
  have p3c2 := p3.cell 2
  simp only [List.getElem?_toArray, List.getElem?_cons_zero, List.getElem?_cons_succ] at p3c0 p3c1 p3c2
  have q3c0 := q3.cell 0
  have q3c1 := q3.cell 1
  have q3c2 := q3.cell 2
  have q3c3 := q3.cell 3
  have q3c4 := q3.cell 4
  simp only [List.getElem?_toArray, List.getElem?_cons_zero, List.getElem?_cons_succ] at q3c0 q3c1 q3c2 q3c3 q3c4
  clear z1 z2 z3
  have zp0 := fun o => (p3.alloc o).cell 0
  have zp1 := fun o => (p3.alloc o).cell 1
  have zp2 := fun o => (p3.alloc o).cell 2
  have zq0 := fun o => (q3.alloc o).cell 0
  have zq1 := fun o => (q3.alloc o).cell 1
  have zq2 := fun o => (q3.alloc o).cell 2
  have zq3 := fun o => (q3.alloc o).cell 3
  have zq4 := fun o => (q3.alloc o).cell 4
  simp only [List.getElem?_toArray, List.getElem?_cons_zero, List.getElem?_cons_succ] at zp0 zp1 zp2 zq0 zq1 zq2 zq3 zq4
  go_wp2_with fail
  refine (HD2 _).mono ?_
  rintro e w4 ⟨rfl, hb4⟩
  have B4 : Below w.heap.size w w4 := (((B3).alloc (B3).size (.cells #[.int .i64 n, .bool a, .bool b, .bool false, .bool ye] 47))).trans (hb4.mono (((B3).alloc (B3).size (.cells #[.int .i64 n, .bool a, .bool b, .bool false, .bool ye] 47))).size)
  have p4 := (((p3).alloc (.cells #[.int .i64 n, .bool a, .bool b, .bool false, .bool ye] 47))).below hb4 (((p3).alloc (.cells #[.int .i64 n, .bool a, .bool b, .bool false, .bool ye] 47))).lt
  have q4 := (((q3).alloc (.cells #[.int .i64 n, .bool a, .bool b, .bool false, .bool ye] 47))).below hb4 (((q3).alloc (.cells #[.int .i64 n, .bool a, .bool b, .bool false, .bool ye] 47))).lt
  have r4 := (Blk.new w3 47 #[.int .i64 n, .bool a, .bool b, .bool false, .bool ye]).below hb4 (Blk.new w3 47 #[.int .i64 n, .bool a, .bool b, .bool false, .bool ye]).lt
  clear hb4 B3 p3 q3
  clear zp0 zp1 zp2 zq0 zq1 zq2 zq3 zq4
  have p4c0 := p4.cell 0
  have p4c1 := p4.cell 1
  have p4c2 := p4.cell 2
  simp only [List.getElem?_toArray, List.getElem?_cons_zero, List.getElem?_cons_succ] at p4c0 p4c1 p4c2
  have q4c0 := q4.cell 0
  have q4c1 := q4.cell 1
  have q4c2 := q4.cell 2
  have q4c3 := q4.cell 3
  have q4c4 := q4.cell 4
  simp only [List.getElem?_toArray, List.getElem?_cons_zero, List.getElem?_cons_succ] at q4c0 q4c1 q4c2 q4c3 q4c4
  have r4c0 := r4.cell 0
  have r4c1 := r4.cell 1
  have r4c2 := r4.cell 2
  have r4c3 := r4.cell 3
  have r4c4 := r4.cell 4
  simp only [List.getElem?_toArray, List.getElem?_cons_zero, List.getElem?_cons_succ] at r4c0 r4c1 r4c2 r4c3 r4c4
  have zp0 := fun o => (p4.alloc o).cell 0
  have zp1 := fun o => (p4.alloc o).cell 1
  have zp2 := fun o => (p4.alloc o).cell 2
  have zq0 := fun o => (q4.alloc o).cell 0
  have zq1 := fun o => (q4.alloc o).cell 1
  have zq2 := fun o => (q4.alloc o).cell 2
  have zq3 := fun o => (q4.alloc o).cell 3
  have zq4 := fun o => (q4.alloc o).cell 4
  have zr0 := fun o => (r4.alloc o).cell 0
  have zr1 := fun o => (r4.alloc o).cell 1
  have zr2 := fun o => (r4.alloc o).cell 2
  have zr3 := fun o => (r4.alloc o).cell 3
  have zr4 := fun o => (r4.alloc o).cell 4
  simp only [List.getElem?_toArray, List.getElem?_cons_zero, List.getElem?_cons_succ] at zp0 zp1 zp2 zq0 zq1 zq2 zq3 zq4 zr0 zr1 zr2 zr3 zr4
  go_wp2_with fail
  refine (HH2 _).mono ?_
  rintro e w5 ⟨rfl, hb5⟩
  have B5 : Below w.heap.size w w5 := (((B4).alloc (B4).size (.cells #[.int .i64 n, .bool a, .bool b, .bool true, .bool false] 47))).trans (hb5.mono (((B4).alloc (B4).size (.cells #[.int .i64 n, .bool a, .bool b, .bool true, .bool false] 47))).size)
  have p5 := (((p4).alloc (.cells #[.int .i64 n, .bool a, .bool b, .bool true, .bool false] 47))).below hb5 (((p4).alloc (.cells #[.int .i64 n, .bool a, .bool b, .bool true, .bool false] 47))).lt
  have q5 := (((q4).alloc (.cells #[.int .i64 n, .bool a, .bool b, .bool true, .bool false] 47))).below hb5 (((q4).alloc (.cells #[.int .i64 n, .bool a, .bool b, .bool true, .bool false] 47))).lt
  have r5 := (((r4).alloc (.cells #[.int .i64 n, .bool a, .bool b, .bool true, .bool false] 47))).below hb5 (((r4).alloc (.cells #[.int .i64 n, .bool a, .bool b, .bool true, .bool false] 47))).lt
  have t5 := (Blk.new w4 47 #[.int .i64 n, .bool a, .bool b, .bool true, .bool false]).below hb5 (Blk.new w4 47 #[.int .i64 n, .bool a, .bool b, .bool true, .bool false]).lt
  clear hb5 B4 p4 q4 r4
  clear zp0 zp1 zp2 zq0 zq1 zq2 zq3 zq4 zr0 zr1 zr2 zr3 zr4
  have p5c0 := p5.cell 0
  have p5c1 := p5.cell 1
  have p5c2 := p5.cell 2
  simp only [List.getElem?_toArray, List.getElem?_cons_zero, List.getElem?_cons_succ] at p5c0 p5c1 p5c2
  have q5c0 := q5.cell 0
  have q5c1 := q5.cell 1
  have q5c2 := q5.cell 2
  have q5c3 := q5.cell 3
  have q5c4 := q5.cell 4
  simp only [List.getElem?_toArray, List.getElem?_cons_zero, List.getElem?_cons_succ] at q5c0 q5c1 q5c2 q5c3 q5c4
  have r5c0 := r5.cell 0
  have r5c1 := r5.cell 1
  have r5c2 := r5.cell 2
  have r5c3 := r5.cell 3
  have r5c4 := r5.cell 4
  simp only [List.getElem?_toArray, List.getElem?_cons_zero, List.getElem?_cons_succ] at r5c0 r5c1 r5c2 r5c3 r5c4
  have t5c0 := t5.cell 0
  have t5c1 := t5.cell 1
  have t5c2 := t5.cell 2
  have t5c3 := t5.cell 3
  have t5c4 := t5.cell 4
  simp only [List.getElem?_toArray, List.getElem?_cons_zero, List.getElem?_cons_succ] at t5c0 t5c1 t5c2 t5c3 t5c4
  have zp0 := fun o => (p5.alloc o).cell 0
  have zp1 := fun o => (p5.alloc o).cell 1
  have zp2 := fun o => (p5.alloc o).cell 2
  have zq0 := fun o => (q5.alloc o).cell 0
  have zq1 := fun o => (q5.alloc o).cell 1
  have zq2 := fun o => (q5.alloc o).cell 2
  have zq3 := fun o => (q5.alloc o).cell 3
  have zq4 := fun o => (q5.alloc o).cell 4
  have zr0 := fun o => (r5.alloc o).cell 0
  have zr1 := fun o => (r5.alloc o).cell 1
  have zr2 := fun o => (r5.alloc o).cell 2
  have zr3 := fun o => (r5.alloc o).cell 3
  have zr4 := fun o => (r5.alloc o).cell 4
  have zt0 := fun o => (t5.alloc o).cell 0
  have zt1 := fun o => (t5.alloc o).cell 1
  have zt2 := fun o => (t5.alloc o).cell 2
  have zt3 := fun o => (t5.alloc o).cell 3
  have zt4 := fun o => (t5.alloc o).cell 4
  simp only [List.getElem?_toArray, List.getElem?_cons_zero, List.getElem?_cons_succ] at zp0 zp1 zp2 zq0 zq1 zq2 zq3 zq4 zr0 zr1 zr2 zr3 zr4 zt0 zt1 zt2 zt3 zt4
  go_wp2
  go_ret
  exact ⟨rfl, B5.alloc B5.size _⟩

set_option maxHeartbeats 1000000 in
theorem still8 (n : Int) (a b : Bool) (act : Int) (ye : Bool) (de : Bool) (k : (act == 1) = false) (HD : Hid (Ans 21 n a b act n a b false false 0)) (HH : Hid (Ans 22 n a b act n a b false ye 0)) (HD2 : Hid (Ans 21 n a b act n a b false false 0)) (HH2 : Hid (Ans 22 n a b act n a b false de 0)) (w : World) :
    Calls Try.prog 7 #[S n a b, .int .i64 act] w fun e w' => e = .returned (.bool true) ∧ Below w.heap.size w w' := by
  go_enter Try.func7, Try.ntmps7
  go_wp2_with fail
  refine (lives_any _).mono ?_
  rintro e w1 ⟨rfl, hb1⟩
  have B1 : Below w.heap.size w w1 := ((((Below.refl w.heap.size w)).alloc ((Below.refl w.heap.size w)).size (.cells #[.int .i64 n, .bool a, .bool b] 23))).trans (hb1.mono ((((Below.refl w.heap.size w)).alloc ((Below.refl w.heap.size w)).size (.cells #[.int .i64 n, .bool a, .bool b] 23))).size)
  have p1 := (Blk.new w 23 #[.int .i64 n, .bool a, .bool b]).below hb1 (Blk.new w 23 #[.int .i64 n, .bool a, .bool b]).lt
  clear hb1
  have p1c0 := p1.cell 0
  have p1c1 := p1.cell 1
  have p1c2 := p1.cell 2
  simp only [List.getElem?_toArray, List.getElem?_cons_zero, List.getElem?_cons_succ] at p1c0 p1c1 p1c2
  go_wp2_with fail
  refine (HD _).mono ?_
  rintro e w2 ⟨rfl, hb2⟩
  have B2 : Below w.heap.size w w2 := (B1).trans (hb2.mono (B1).size)
  have p2 := (p1).below hb2 (p1).lt
  clear hb2 B1 p1
  have p2c0 := p2.cell 0
  have p2c1 := p2.cell 1
  have p2c2 := p2.cell 2
  simp only [List.getElem?_toArray, List.getElem?_cons_zero, List.getElem?_cons_succ] at p2c0 p2c1 p2c2
  have z1 := fun o => (p2.alloc o).cell 0
  have z2 := fun o => (p2.alloc o).cell 1
  have z3 := fun o => (p2.alloc o).cell 2
  simp only [List.getElem?_toArray, List.getElem?_cons_zero, List.getElem?_cons_succ] at z1 z2 z3
  go_wp2_with fail
  refine (HH _).mono ?_
  rintro e w3 ⟨rfl, hb3⟩
  have B3 : Below w.heap.size w w3 := (((B2).alloc (B2).size (.cells #[.int .i64 n, .bool a, .bool b, .bool false, .bool false] 47))).trans (hb3.mono (((B2).alloc (B2).size (.cells #[.int .i64 n, .bool a, .bool b, .bool false, .bool false] 47))).size)
  have p3 := (((p2).alloc (.cells #[.int .i64 n, .bool a, .bool b, .bool false, .bool false] 47))).below hb3 (((p2).alloc (.cells #[.int .i64 n, .bool a, .bool b, .bool false, .bool false] 47))).lt
  have q3 := (Blk.new w2 47 #[.int .i64 n, .bool a, .bool b, .bool false, .bool false]).below hb3 (Blk.new w2 47 #[.int .i64 n, .bool a, .bool b, .bool false, .bool false]).lt
  clear hb3 B2 p2
  have p3c0 := p3.cell 0
  have p3c1 := p3.cell 1
  have p3c2 := p3.cell 2
  simp only [List.getElem?_toArray, List.getElem?_cons_zero, List.getElem?_cons_succ] at p3c0 p3c1 p3c2
  have q3c0 := q3.cell 0
  have q3c1 := q3.cell 1
  have q3c2 := q3.cell 2
  have q3c3 := q3.cell 3
  have q3c4 := q3.cell 4
  simp only [List.getElem?_toArray, List.getElem?_cons_zero, List.getElem?_cons_succ] at q3c0 q3c1 q3c2 q3c3 q3c4
  clear z1 z2 z3
  have zp0 := fun o => (p3.alloc o).cell 0
  have zp1 := fun o => (p3.alloc o).cell 1
  have zp2 := fun o => (p3.alloc o).cell 2
  have zq0 := fun o => (q3.alloc o).cell 0
  have zq1 := fun o => (q3.alloc o).cell 1
  have zq2 := fun o => (q3.alloc o).cell 2
  have zq3 := fun o => (q3.alloc o).cell 3
  have zq4 := fun o => (q3.alloc o).cell 4
  simp only [List.getElem?_toArray, List.getElem?_cons_zero, List.getElem?_cons_succ] at zp0 zp1 zp2 zq0 zq1 zq2 zq3 zq4
  go_wp2_with fail
  refine (HD2 _).mono ?_
  rintro e w4 ⟨rfl, hb4⟩
  have B4 : Below w.heap.size w w4 := (((B3).alloc (B3).size (.cells #[.int .i64 n, .bool a, .bool b, .bool false, .bool ye] 47))).trans (hb4.mono (((B3).alloc (B3).size (.cells #[.int .i64 n, .bool a, .bool b, .bool false, .bool ye] 47))).size)
  have p4 := (((p3).alloc (.cells #[.int .i64 n, .bool a, .bool b, .bool false, .bool ye] 47))).below hb4 (((p3).alloc (.cells #[.int .i64 n, .bool a, .bool b, .bool false, .bool ye] 47))).lt
  have q4 := (((q3).alloc (.cells #[.int .i64 n, .bool a, .bool b, .bool false, .bool ye] 47))).below hb4 (((q3).alloc (.cells #[.int .i64 n, .bool a, .bool b, .bool false, .bool ye] 47))).lt
  have r4 := (Blk.new w3 47 #[.int .i64 n, .bool a, .bool b, .bool false, .bool ye]).below hb4 (Blk.new w3 47 #[.int .i64 n, .bool a, .bool b, .bool false, .bool ye]).lt
  clear hb4 B3 p3 q3
  clear zp0 zp1 zp2 zq0 zq1 zq2 zq3 zq4
  have p4c0 := p4.cell 0
  have p4c1 := p4.cell 1
  have p4c2 := p4.cell 2
  simp only [List.getElem?_toArray, List.getElem?_cons_zero, List.getElem?_cons_succ] at p4c0 p4c1 p4c2
  have q4c0 := q4.cell 0
  have q4c1 := q4.cell 1
  have q4c2 := q4.cell 2
  have q4c3 := q4.cell 3
  have q4c4 := q4.cell 4
  simp only [List.getElem?_toArray, List.getElem?_cons_zero, List.getElem?_cons_succ] at q4c0 q4c1 q4c2 q4c3 q4c4
  have r4c0 := r4.cell 0
  have r4c1 := r4.cell 1
  have r4c2 := r4.cell 2
  have r4c3 := r4.cell 3
  have r4c4 := r4.cell 4
  simp only [List.getElem?_toArray, List.getElem?_cons_zero, List.getElem?_cons_succ] at r4c0 r4c1 r4c2 r4c3 r4c4
  have zp0 := fun o => (p4.alloc o).cell 0
  have zp1 := fun o => (p4.alloc o).cell 1
  have zp2 := fun o => (p4.alloc o).cell 2
  have zq0 := fun o => (q4.alloc o).cell 0
  have zq1 := fun o => (q4.alloc o).cell 1
  have zq2 := fun o => (q4.alloc o).cell 2
  have zq3 := fun o => (q4.alloc o).cell 3
  have zq4 := fun o => (q4.alloc o).cell 4
  have zr0 := fun o => (r4.alloc o).cell 0
  have zr1 := fun o => (r4.alloc o).cell 1
  have zr2 := fun o => (r4.alloc o).cell 2
  have zr3 := fun o => (r4.alloc o).cell 3
  have zr4 := fun o => (r4.alloc o).cell 4
  simp only [List.getElem?_toArray, List.getElem?_cons_zero, List.getElem?_cons_succ] at zp0 zp1 zp2 zq0 zq1 zq2 zq3 zq4 zr0 zr1 zr2 zr3 zr4
  go_wp2_with fail
  refine (HH2 _).mono ?_
  rintro e w5 ⟨rfl, hb5⟩
  have B5 : Below w.heap.size w w5 := (((B4).alloc (B4).size (.cells #[.int .i64 n, .bool a, .bool b, .bool false, .bool false] 47))).trans (hb5.mono (((B4).alloc (B4).size (.cells #[.int .i64 n, .bool a, .bool b, .bool false, .bool false] 47))).size)
  have p5 := (((p4).alloc (.cells #[.int .i64 n, .bool a, .bool b, .bool false, .bool false] 47))).below hb5 (((p4).alloc (.cells #[.int .i64 n, .bool a, .bool b, .bool false, .bool false] 47))).lt
  have q5 := (((q4).alloc (.cells #[.int .i64 n, .bool a, .bool b, .bool false, .bool false] 47))).below hb5 (((q4).alloc (.cells #[.int .i64 n, .bool a, .bool b, .bool false, .bool false] 47))).lt
  have r5 := (((r4).alloc (.cells #[.int .i64 n, .bool a, .bool b, .bool false, .bool false] 47))).below hb5 (((r4).alloc (.cells #[.int .i64 n, .bool a, .bool b, .bool false, .bool false] 47))).lt
  have t5 := (Blk.new w4 47 #[.int .i64 n, .bool a, .bool b, .bool false, .bool false]).below hb5 (Blk.new w4 47 #[.int .i64 n, .bool a, .bool b, .bool false, .bool false]).lt
  clear hb5 B4 p4 q4 r4
  clear zp0 zp1 zp2 zq0 zq1 zq2 zq3 zq4 zr0 zr1 zr2 zr3 zr4
  have p5c0 := p5.cell 0
  have p5c1 := p5.cell 1
  have p5c2 := p5.cell 2
  simp only [List.getElem?_toArray, List.getElem?_cons_zero, List.getElem?_cons_succ] at p5c0 p5c1 p5c2
  have q5c0 := q5.cell 0
  have q5c1 := q5.cell 1
  have q5c2 := q5.cell 2
  have q5c3 := q5.cell 3
  have q5c4 := q5.cell 4
  simp only [List.getElem?_toArray, List.getElem?_cons_zero, List.getElem?_cons_succ] at q5c0 q5c1 q5c2 q5c3 q5c4
  have r5c0 := r5.cell 0
  have r5c1 := r5.cell 1
  have r5c2 := r5.cell 2
  have r5c3 := r5.cell 3
  have r5c4 := r5.cell 4
  simp only [List.getElem?_toArray, List.getElem?_cons_zero, List.getElem?_cons_succ] at r5c0 r5c1 r5c2 r5c3 r5c4
  have t5c0 := t5.cell 0
  have t5c1 := t5.cell 1
  have t5c2 := t5.cell 2
  have t5c3 := t5.cell 3
  have t5c4 := t5.cell 4
  simp only [List.getElem?_toArray, List.getElem?_cons_zero, List.getElem?_cons_succ] at t5c0 t5c1 t5c2 t5c3 t5c4
  have zp0 := fun o => (p5.alloc o).cell 0
  have zp1 := fun o => (p5.alloc o).cell 1
  have zp2 := fun o => (p5.alloc o).cell 2
  have zq0 := fun o => (q5.alloc o).cell 0
  have zq1 := fun o => (q5.alloc o).cell 1
  have zq2 := fun o => (q5.alloc o).cell 2
  have zq3 := fun o => (q5.alloc o).cell 3
  have zq4 := fun o => (q5.alloc o).cell 4
  have zr0 := fun o => (r5.alloc o).cell 0
  have zr1 := fun o => (r5.alloc o).cell 1
  have zr2 := fun o => (r5.alloc o).cell 2
  have zr3 := fun o => (r5.alloc o).cell 3
  have zr4 := fun o => (r5.alloc o).cell 4
  have zt0 := fun o => (t5.alloc o).cell 0
  have zt1 := fun o => (t5.alloc o).cell 1
  have zt2 := fun o => (t5.alloc o).cell 2
  have zt3 := fun o => (t5.alloc o).cell 3
  have zt4 := fun o => (t5.alloc o).cell 4
  simp only [List.getElem?_toArray, List.getElem?_cons_zero, List.getElem?_cons_succ] at zp0 zp1 zp2 zq0 zq1 zq2 zq3 zq4 zr0 zr1 zr2 zr3 zr4 zt0 zt1 zt2 zt3 zt4
  go_wp2
  go_ret
  exact ⟨rfl, B5.alloc B5.size _⟩

end Go.Proofs.Ytajdhlcnfmlkiaa
