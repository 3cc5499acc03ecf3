/- The reference's Both of layer 11, out of what its Do and Hear answer; a reference's side as the program has it. -/
import Derived.Test.YtajdhlcnfmlkiaaR
import Derived.Test.YtajdhlcnfmlkiaaR2
namespace Go.Proofs.Ytajdhlcnfmlkiaa
open Go.RowKit
attribute [local go_sem ↓] Go.wp_at_zero Go.wp_at_succ

def AnsD (x y a b : Bool) (act : Int) (x' y' a' b' t : Bool) : Prop :=
  ∀ w : World, Calls Try.prog 23 #[Q4 x y a b, .int .i64 act] w fun e w' => e = .returned (.tuple #[Q4 x' y' a' b', .bool t, .bool true]) ∧ Below w.heap.size w w'
def AnsH (x y a b : Bool) (act : Int) (x' y' a' b' t e' : Bool) : Prop :=
  ∀ w : World, Calls Try.prog 24 #[Q4 x y a b, .int .i64 act] w fun e w' => e = .returned (.tuple #[Q4 x' y' a' b', .bool t, .bool e', .bool true]) ∧ Below w.heap.size w w'
theorem below_set4 {w0 W : World} (B : Below w0.heap.size w0 W) {g : Nat} (hg : w0.heap.size ≤ g) (v0 v1 v2 v3 : Value) :
    Below w0.heap.size w0 ((((W.setCell ⟨g, 0, none⟩ v0).setCell ⟨g, 1, none⟩ v1).setCell ⟨g, 2, none⟩ v2).setCell ⟨g, 3, none⟩ v3) := (((B.setCell hg v0).setCell hg v1).setCell hg v2).setCell hg v3

set_option maxHeartbeats 1000000 in
theorem rboth_quiet (x y a b x' y' a' b' : Bool) (act : Int) (x1 y1 a1 b1 : Bool) (HD : Hid (AnsD x y a b act x1 y1 a1 b1 false)) (w : World) :
    Calls Try.prog 13 #[Q4 x y a b, Q4 x' y' a' b', .int .i64 act] w fun e w' => e = .returned (.tuple #[Q4 x1 y1 a1 b1, Q4 x' y' a' b']) ∧ Below w.heap.size w w' := by
  go_enter Try.func13, Try.ntmps13
  go_wp2_with fail
  refine (HD _).mono ?_
  rintro e w1 ⟨rfl, hb1⟩
  have B1 : Below w.heap.size w w1 := ((((((((((Below.refl w.heap.size w)).alloc ((Below.refl w.heap.size w)).size (.cells #[.bool x, .bool y, .bool a, .bool b] 29))).alloc ((((Below.refl w.heap.size w)).alloc ((Below.refl w.heap.size w)).size (.cells #[.bool x, .bool y, .bool a, .bool b] 29))).size (.cells #[.bool x', .bool y', .bool a', .bool b'] 29))).alloc ((((((Below.refl w.heap.size w)).alloc ((Below.refl w.heap.size w)).size (.cells #[.bool x, .bool y, .bool a, .bool b] 29))).alloc ((((Below.refl w.heap.size w)).alloc ((Below.refl w.heap.size w)).size (.cells #[.bool x, .bool y, .bool a, .bool b] 29))).size (.cells #[.bool x', .bool y', .bool a', .bool b'] 29))).size (.cells #[.bool false, .bool false, .bool false, .bool false] 29))).alloc ((((((((Below.refl w.heap.size w)).alloc ((Below.refl w.heap.size w)).size (.cells #[.bool x, .bool y, .bool a, .bool b] 29))).alloc ((((Below.refl w.heap.size w)).alloc ((Below.refl w.heap.size w)).size (.cells #[.bool x, .bool y, .bool a, .bool b] 29))).size (.cells #[.bool x', .bool y', .bool a', .bool b'] 29))).alloc ((((((Below.refl w.heap.size w)).alloc ((Below.refl w.heap.size w)).size (.cells #[.bool x, .bool y, .bool a, .bool b] 29))).alloc ((((Below.refl w.heap.size w)).alloc ((Below.refl w.heap.size w)).size (.cells #[.bool x, .bool y, .bool a, .bool b] 29))).size (.cells #[.bool x', .bool y', .bool a', .bool b'] 29))).size (.cells #[.bool false, .bool false, .bool false, .bool false] 29))).size (.cells #[.bool false, .bool false, .bool false, .bool false] 29))).trans (hb1.mono ((((((((((Below.refl w.heap.size w)).alloc ((Below.refl w.heap.size w)).size (.cells #[.bool x, .bool y, .bool a, .bool b] 29))).alloc ((((Below.refl w.heap.size w)).alloc ((Below.refl w.heap.size w)).size (.cells #[.bool x, .bool y, .bool a, .bool b] 29))).size (.cells #[.bool x', .bool y', .bool a', .bool b'] 29))).alloc ((((((Below.refl w.heap.size w)).alloc ((Below.refl w.heap.size w)).size (.cells #[.bool x, .bool y, .bool a, .bool b] 29))).alloc ((((Below.refl w.heap.size w)).alloc ((Below.refl w.heap.size w)).size (.cells #[.bool x, .bool y, .bool a, .bool b] 29))).size (.cells #[.bool x', .bool y', .bool a', .bool b'] 29))).size (.cells #[.bool false, .bool false, .bool false, .bool false] 29))).alloc ((((((((Below.refl w.heap.size w)).alloc ((Below.refl w.heap.size w)).size (.cells #[.bool x, .bool y, .bool a, .bool b] 29))).alloc ((((Below.refl w.heap.size w)).alloc ((Below.refl w.heap.size w)).size (.cells #[.bool x, .bool y, .bool a, .bool b] 29))).size (.cells #[.bool x', .bool y', .bool a', .bool b'] 29))).alloc ((((((Below.refl w.heap.size w)).alloc ((Below.refl w.heap.size w)).size (.cells #[.bool x, .bool y, .bool a, .bool b] 29))).alloc ((((Below.refl w.heap.size w)).alloc ((Below.refl w.heap.size w)).size (.cells #[.bool x, .bool y, .bool a, .bool b] 29))).size (.cells #[.bool x', .bool y', .bool a', .bool b'] 29))).size (.cells #[.bool false, .bool false, .bool false, .bool false] 29))).size (.cells #[.bool false, .bool false, .bool false, .bool false] 29))).size)
  have p1 := ((((Blk.new w 29 #[.bool x, .bool y, .bool a, .bool b]).alloc (.cells #[.bool x', .bool y', .bool a', .bool b'] 29)).alloc (.cells #[.bool false, .bool false, .bool false, .bool false] 29)).alloc (.cells #[.bool false, .bool false, .bool false, .bool false] 29)).below hb1 ((((Blk.new w 29 #[.bool x, .bool y, .bool a, .bool b]).alloc (.cells #[.bool x', .bool y', .bool a', .bool b'] 29)).alloc (.cells #[.bool false, .bool false, .bool false, .bool false] 29)).alloc (.cells #[.bool false, .bool false, .bool false, .bool false] 29)).lt
  have q1 := (((Blk.new (w.alloc (.cells #[.bool x, .bool y, .bool a, .bool b] 29)) 29 #[.bool x', .bool y', .bool a', .bool b']).alloc (.cells #[.bool false, .bool false, .bool false, .bool false] 29)).alloc (.cells #[.bool false, .bool false, .bool false, .bool false] 29)).below hb1 (((Blk.new (w.alloc (.cells #[.bool x, .bool y, .bool a, .bool b] 29)) 29 #[.bool x', .bool y', .bool a', .bool b']).alloc (.cells #[.bool false, .bool false, .bool false, .bool false] 29)).alloc (.cells #[.bool false, .bool false, .bool false, .bool false] 29)).lt
  simp only [World.size_alloc] at q1
  have u1 := ((Blk.new ((w.alloc (.cells #[.bool x, .bool y, .bool a, .bool b] 29)).alloc (.cells #[.bool x', .bool y', .bool a', .bool b'] 29)) 29 #[.bool false, .bool false, .bool false, .bool false]).alloc (.cells #[.bool false, .bool false, .bool false, .bool false] 29)).below hb1 ((Blk.new ((w.alloc (.cells #[.bool x, .bool y, .bool a, .bool b] 29)).alloc (.cells #[.bool x', .bool y', .bool a', .bool b'] 29)) 29 #[.bool false, .bool false, .bool false, .bool false]).alloc (.cells #[.bool false, .bool false, .bool false, .bool false] 29)).lt
  simp only [World.size_alloc] at u1
  have v1 := (Blk.new (((w.alloc (.cells #[.bool x, .bool y, .bool a, .bool b] 29)).alloc (.cells #[.bool x', .bool y', .bool a', .bool b'] 29)).alloc (.cells #[.bool false, .bool false, .bool false, .bool false] 29)) 29 #[.bool false, .bool false, .bool false, .bool false]).below hb1 (Blk.new (((w.alloc (.cells #[.bool x, .bool y, .bool a, .bool b] 29)).alloc (.cells #[.bool x', .bool y', .bool a', .bool b'] 29)).alloc (.cells #[.bool false, .bool false, .bool false, .bool false] 29)) 29 #[.bool false, .bool false, .bool false, .bool false]).lt
  simp only [World.size_alloc] at v1
  clear hb1
  have z1 := v1.lt
  have p1c0 := (p1.alloc (.cells #[.bool x1, .bool y1, .bool a1, .bool b1] 29)).cell 0
  have p1c1 := (p1.alloc (.cells #[.bool x1, .bool y1, .bool a1, .bool b1] 29)).cell 1
  have p1c2 := (p1.alloc (.cells #[.bool x1, .bool y1, .bool a1, .bool b1] 29)).cell 2
  have p1c3 := (p1.alloc (.cells #[.bool x1, .bool y1, .bool a1, .bool b1] 29)).cell 3
  simp only [List.getElem?_toArray, List.getElem?_cons_zero, List.getElem?_cons_succ] at p1c0 p1c1 p1c2 p1c3
  have q1c0 := (q1.alloc (.cells #[.bool x1, .bool y1, .bool a1, .bool b1] 29)).cell 0
  have q1c1 := (q1.alloc (.cells #[.bool x1, .bool y1, .bool a1, .bool b1] 29)).cell 1
  have q1c2 := (q1.alloc (.cells #[.bool x1, .bool y1, .bool a1, .bool b1] 29)).cell 2
  have q1c3 := (q1.alloc (.cells #[.bool x1, .bool y1, .bool a1, .bool b1] 29)).cell 3
  simp only [List.getElem?_toArray, List.getElem?_cons_zero, List.getElem?_cons_succ] at q1c0 q1c1 q1c2 q1c3
  have u1c0 := (u1.alloc (.cells #[.bool x1, .bool y1, .bool a1, .bool b1] 29)).cell 0
  have u1c1 := (u1.alloc (.cells #[.bool x1, .bool y1, .bool a1, .bool b1] 29)).cell 1
  have u1c2 := (u1.alloc (.cells #[.bool x1, .bool y1, .bool a1, .bool b1] 29)).cell 2
  have u1c3 := (u1.alloc (.cells #[.bool x1, .bool y1, .bool a1, .bool b1] 29)).cell 3
  simp only [List.getElem?_toArray, List.getElem?_cons_zero, List.getElem?_cons_succ] at u1c0 u1c1 u1c2 u1c3
  have u1cf0 := (u1.alloc (.cells #[.bool x1, .bool y1, .bool a1, .bool b1] 29)).frozen 0
  have u1cf1 := (u1.alloc (.cells #[.bool x1, .bool y1, .bool a1, .bool b1] 29)).frozen 1
  have u1cf2 := (u1.alloc (.cells #[.bool x1, .bool y1, .bool a1, .bool b1] 29)).frozen 2
  have u1cf3 := (u1.alloc (.cells #[.bool x1, .bool y1, .bool a1, .bool b1] 29)).frozen 3
  have v1c0 := (v1.alloc (.cells #[.bool x1, .bool y1, .bool a1, .bool b1] 29)).cell 0
  have v1c1 := (v1.alloc (.cells #[.bool x1, .bool y1, .bool a1, .bool b1] 29)).cell 1
  have v1c2 := (v1.alloc (.cells #[.bool x1, .bool y1, .bool a1, .bool b1] 29)).cell 2
  have v1c3 := (v1.alloc (.cells #[.bool x1, .bool y1, .bool a1, .bool b1] 29)).cell 3
  simp only [List.getElem?_toArray, List.getElem?_cons_zero, List.getElem?_cons_succ] at v1c0 v1c1 v1c2 v1c3
  have v1cf0 := (v1.alloc (.cells #[.bool x1, .bool y1, .bool a1, .bool b1] 29)).frozen 0
  have v1cf1 := (v1.alloc (.cells #[.bool x1, .bool y1, .bool a1, .bool b1] 29)).frozen 1
  have v1cf2 := (v1.alloc (.cells #[.bool x1, .bool y1, .bool a1, .bool b1] 29)).frozen 2
  have v1cf3 := (v1.alloc (.cells #[.bool x1, .bool y1, .bool a1, .bool b1] 29)).frozen 3
  have n0 : ¬ w1.heap.size = w.heap.size := by omega
  have n0' : ¬ w.heap.size = w1.heap.size := by omega
  have n1 : ¬ w1.heap.size = w.heap.size + 1 := by omega
  have n1' : ¬ w.heap.size + 1 = w1.heap.size := by omega
  have n2 : ¬ w1.heap.size = w.heap.size + 1 + 1 := by omega
  have n2' : ¬ w.heap.size + 1 + 1 = w1.heap.size := by omega
  have n3 : ¬ w1.heap.size = w.heap.size + 1 + 1 + 1 := by omega
  have n3' : ¬ w.heap.size + 1 + 1 + 1 = w1.heap.size := by omega
  go_wp2
  go_region
  go_wp2
  refine bodyPost_ret (v := .tuple #[Q4 x1 y1 a1 b1, Q4 x' y' a' b']) (by simp [results, Try.results13, go_sem, u1c0, u1c1, u1c2, u1c3, v1c0, v1c1, v1c2, v1c3]) rfl ⟨rfl, ?_⟩
  exact (below_set4 (below_set4 (B1.alloc B1.size (.cells #[.bool x1, .bool y1, .bool a1, .bool b1] 29)) (by omega) _ _ _ _) (by omega) _ _ _ _).drew

set_option maxHeartbeats 1000000 in
theorem rboth_plain (x y a b x' y' a' b' : Bool) (act : Int) (x1 y1 a1 b1 x2 y2 a2 b2 t : Bool) (HD : Hid (AnsD x y a b act x1 y1 a1 b1 true)) (HH : Hid (AnsH x' y' a' b' act x2 y2 a2 b2 t false)) (w : World) :
    Calls Try.prog 13 #[Q4 x y a b, Q4 x' y' a' b', .int .i64 act] w fun e w' => e = .returned (.tuple #[Q4 x1 y1 a1 b1, Q4 x2 y2 a2 b2]) ∧ Below w.heap.size w w' := by
  go_enter Try.func13, Try.ntmps13
  go_wp2_with fail
  refine (HD _).mono ?_
  rintro e w1 ⟨rfl, hb1⟩
  have B1 : Below w.heap.size w w1 := ((((((((((Below.refl w.heap.size w)).alloc ((Below.refl w.heap.size w)).size (.cells #[.bool x, .bool y, .bool a, .bool b] 29))).alloc ((((Below.refl w.heap.size w)).alloc ((Below.refl w.heap.size w)).size (.cells #[.bool x, .bool y, .bool a, .bool b] 29))).size (.cells #[.bool x', .bool y', .bool a', .bool b'] 29))).alloc ((((((Below.refl w.heap.size w)).alloc ((Below.refl w.heap.size w)).size (.cells #[.bool x, .bool y, .bool a, .bool b] 29))).alloc ((((Below.refl w.heap.size w)).alloc ((Below.refl w.heap.size w)).size (.cells #[.bool x, .bool y, .bool a, .bool b] 29))).size (.cells #[.bool x', .bool y', .bool a', .bool b'] 29))).size (.cells #[.bool false, .bool false, .bool false, .bool false] 29))).alloc ((((((((Below.refl w.heap.size w)).alloc ((Below.refl w.heap.size w)).size (.cells #[.bool x, .bool y, .bool a, .bool b] 29))).alloc ((((Below.refl w.heap.size w)).alloc ((Below.refl w.heap.size w)).size (.cells #[.bool x, .bool y, .bool a, .bool b] 29))).size (.cells #[.bool x', .bool y', .bool a', .bool b'] 29))).alloc ((((((Below.refl w.heap.size w)).alloc ((Below.refl w.heap.size w)).size (.cells #[.bool x, .bool y, .bool a, .bool b] 29))).alloc ((((Below.refl w.heap.size w)).alloc ((Below.refl w.heap.size w)).size (.cells #[.bool x, .bool y, .bool a, .bool b] 29))).size (.cells #[.bool x', .bool y', .bool a', .bool b'] 29))).size (.cells #[.bool false, .bool false, .bool false, .bool false] 29))).size (.cells #[.bool false, .bool false, .bool false, .bool false] 29))).trans (hb1.mono ((((((((((Below.refl w.heap.size w)).alloc ((Below.refl w.heap.size w)).size (.cells #[.bool x, .bool y, .bool a, .bool b] 29))).alloc ((((Below.refl w.heap.size w)).alloc ((Below.refl w.heap.size w)).size (.cells #[.bool x, .bool y, .bool a, .bool b] 29))).size (.cells #[.bool x', .bool y', .bool a', .bool b'] 29))).alloc ((((((Below.refl w.heap.size w)).alloc ((Below.refl w.heap.size w)).size (.cells #[.bool x, .bool y, .bool a, .bool b] 29))).alloc ((((Below.refl w.heap.size w)).alloc ((Below.refl w.heap.size w)).size (.cells #[.bool x, .bool y, .bool a, .bool b] 29))).size (.cells #[.bool x', .bool y', .bool a', .bool b'] 29))).size (.cells #[.bool false, .bool false, .bool false, .bool false] 29))).alloc ((((((((Below.refl w.heap.size w)).alloc ((Below.refl w.heap.size w)).size (.cells #[.bool x, .bool y, .bool a, .bool b] 29))).alloc ((((Below.refl w.heap.size w)).alloc ((Below.refl w.heap.size w)).size (.cells #[.bool x, .bool y, .bool a, .bool b] 29))).size (.cells #[.bool x', .bool y', .bool a', .bool b'] 29))).alloc ((((((Below.refl w.heap.size w)).alloc ((Below.refl w.heap.size w)).size (.cells #[.bool x, .bool y, .bool a, .bool b] 29))).alloc ((((Below.refl w.heap.size w)).alloc ((Below.refl w.heap.size w)).size (.cells #[.bool x, .bool y, .bool a, .bool b] 29))).size (.cells #[.bool x', .bool y', .bool a', .bool b'] 29))).size (.cells #[.bool false, .bool false, .bool false, .bool false] 29))).size (.cells #[.bool false, .bool false, .bool false, .bool false] 29))).size)
  have p1 := ((((Blk.new w 29 #[.bool x, .bool y, .bool a, .bool b]).alloc (.cells #[.bool x', .bool y', .bool a', .bool b'] 29)).alloc (.cells #[.bool false, .bool false, .bool false, .bool false] 29)).alloc (.cells #[.bool false, .bool false, .bool false, .bool false] 29)).below hb1 ((((Blk.new w 29 #[.bool x, .bool y, .bool a, .bool b]).alloc (.cells #[.bool x', .bool y', .bool a', .bool b'] 29)).alloc (.cells #[.bool false, .bool false, .bool false, .bool false] 29)).alloc (.cells #[.bool false, .bool false, .bool false, .bool false] 29)).lt
  have q1 := (((Blk.new (w.alloc (.cells #[.bool x, .bool y, .bool a, .bool b] 29)) 29 #[.bool x', .bool y', .bool a', .bool b']).alloc (.cells #[.bool false, .bool false, .bool false, .bool false] 29)).alloc (.cells #[.bool false, .bool false, .bool false, .bool false] 29)).below hb1 (((Blk.new (w.alloc (.cells #[.bool x, .bool y, .bool a, .bool b] 29)) 29 #[.bool x', .bool y', .bool a', .bool b']).alloc (.cells #[.bool false, .bool false, .bool false, .bool false] 29)).alloc (.cells #[.bool false, .bool false, .bool false, .bool false] 29)).lt
  simp only [World.size_alloc] at q1
  have u1 := ((Blk.new ((w.alloc (.cells #[.bool x, .bool y, .bool a, .bool b] 29)).alloc (.cells #[.bool x', .bool y', .bool a', .bool b'] 29)) 29 #[.bool false, .bool false, .bool false, .bool false]).alloc (.cells #[.bool false, .bool false, .bool false, .bool false] 29)).below hb1 ((Blk.new ((w.alloc (.cells #[.bool x, .bool y, .bool a, .bool b] 29)).alloc (.cells #[.bool x', .bool y', .bool a', .bool b'] 29)) 29 #[.bool false, .bool false, .bool false, .bool false]).alloc (.cells #[.bool false, .bool false, .bool false, .bool false] 29)).lt
  simp only [World.size_alloc] at u1
  have v1 := (Blk.new (((w.alloc (.cells #[.bool x, .bool y, .bool a, .bool b] 29)).alloc (.cells #[.bool x', .bool y', .bool a', .bool b'] 29)).alloc (.cells #[.bool false, .bool false, .bool false, .bool false] 29)) 29 #[.bool false, .bool false, .bool false, .bool false]).below hb1 (Blk.new (((w.alloc (.cells #[.bool x, .bool y, .bool a, .bool b] 29)).alloc (.cells #[.bool x', .bool y', .bool a', .bool b'] 29)).alloc (.cells #[.bool false, .bool false, .bool false, .bool false] 29)) 29 #[.bool false, .bool false, .bool false, .bool false]).lt
  simp only [World.size_alloc] at v1
  clear hb1
  have z1 := v1.lt
  have q1c0 := (q1.alloc (.cells #[.bool x1, .bool y1, .bool a1, .bool b1] 29)).cell 0
  have q1c1 := (q1.alloc (.cells #[.bool x1, .bool y1, .bool a1, .bool b1] 29)).cell 1
  have q1c2 := (q1.alloc (.cells #[.bool x1, .bool y1, .bool a1, .bool b1] 29)).cell 2
  have q1c3 := (q1.alloc (.cells #[.bool x1, .bool y1, .bool a1, .bool b1] 29)).cell 3
  simp only [List.getElem?_toArray, List.getElem?_cons_zero, List.getElem?_cons_succ] at q1c0 q1c1 q1c2 q1c3
  go_wp2_with fail
  refine (HH _).mono ?_
  rintro e w2 ⟨rfl, hb2⟩
  have B2 : Below w.heap.size w w2 := (((B1).alloc (B1).size (.cells #[.bool x1, .bool y1, .bool a1, .bool b1] 29))).trans (hb2.mono (((B1).alloc (B1).size (.cells #[.bool x1, .bool y1, .bool a1, .bool b1] 29))).size)
  have p2 := (((p1).alloc (.cells #[.bool x1, .bool y1, .bool a1, .bool b1] 29))).below hb2 (((p1).alloc (.cells #[.bool x1, .bool y1, .bool a1, .bool b1] 29))).lt
  have q2 := (((q1).alloc (.cells #[.bool x1, .bool y1, .bool a1, .bool b1] 29))).below hb2 (((q1).alloc (.cells #[.bool x1, .bool y1, .bool a1, .bool b1] 29))).lt
  have u2 := (((u1).alloc (.cells #[.bool x1, .bool y1, .bool a1, .bool b1] 29))).below hb2 (((u1).alloc (.cells #[.bool x1, .bool y1, .bool a1, .bool b1] 29))).lt
  have v2 := (((v1).alloc (.cells #[.bool x1, .bool y1, .bool a1, .bool b1] 29))).below hb2 (((v1).alloc (.cells #[.bool x1, .bool y1, .bool a1, .bool b1] 29))).lt
  have r2 := (Blk.new w1 29 #[.bool x1, .bool y1, .bool a1, .bool b1]).below hb2 (Blk.new w1 29 #[.bool x1, .bool y1, .bool a1, .bool b1]).lt
  clear hb2 B1 p1 q1 u1 v1
  clear q1c0 q1c1 q1c2 q1c3
  have z2 := v2.lt
  have z12 := r2.lt
  have n0 : ¬ w1.heap.size = w.heap.size := by omega
  have n0' : ¬ w.heap.size = w1.heap.size := by omega
  have n1 : ¬ w1.heap.size = w.heap.size + 1 := by omega
  have n1' : ¬ w.heap.size + 1 = w1.heap.size := by omega
  have n2 : ¬ w1.heap.size = w.heap.size + 1 + 1 := by omega
  have n2' : ¬ w.heap.size + 1 + 1 = w1.heap.size := by omega
  have n3 : ¬ w1.heap.size = w.heap.size + 1 + 1 + 1 := by omega
  have n3' : ¬ w.heap.size + 1 + 1 + 1 = w1.heap.size := by omega
  have k0 : ¬ w2.heap.size = w.heap.size := by omega
  have k0' : ¬ w.heap.size = w2.heap.size := by omega
  have k1 : ¬ w2.heap.size = w.heap.size + 1 := by omega
  have k1' : ¬ w.heap.size + 1 = w2.heap.size := by omega
  have k2 : ¬ w2.heap.size = w.heap.size + 1 + 1 := by omega
  have k2' : ¬ w.heap.size + 1 + 1 = w2.heap.size := by omega
  have k3 : ¬ w2.heap.size = w.heap.size + 1 + 1 + 1 := by omega
  have k3' : ¬ w.heap.size + 1 + 1 + 1 = w2.heap.size := by omega
  have k9 : ¬ w2.heap.size = w1.heap.size := by omega
  have k9' : ¬ w1.heap.size = w2.heap.size := by omega
  have r2c0 := (r2.alloc (.cells #[.bool x2, .bool y2, .bool a2, .bool b2] 29)).cell 0
  have r2c1 := (r2.alloc (.cells #[.bool x2, .bool y2, .bool a2, .bool b2] 29)).cell 1
  have r2c2 := (r2.alloc (.cells #[.bool x2, .bool y2, .bool a2, .bool b2] 29)).cell 2
  have r2c3 := (r2.alloc (.cells #[.bool x2, .bool y2, .bool a2, .bool b2] 29)).cell 3
  simp only [List.getElem?_toArray, List.getElem?_cons_zero, List.getElem?_cons_succ] at r2c0 r2c1 r2c2 r2c3
  have u2c0 := (u2.alloc (.cells #[.bool x2, .bool y2, .bool a2, .bool b2] 29)).cell 0
  have u2c1 := (u2.alloc (.cells #[.bool x2, .bool y2, .bool a2, .bool b2] 29)).cell 1
  have u2c2 := (u2.alloc (.cells #[.bool x2, .bool y2, .bool a2, .bool b2] 29)).cell 2
  have u2c3 := (u2.alloc (.cells #[.bool x2, .bool y2, .bool a2, .bool b2] 29)).cell 3
  simp only [List.getElem?_toArray, List.getElem?_cons_zero, List.getElem?_cons_succ] at u2c0 u2c1 u2c2 u2c3
  have u2cf0 := (u2.alloc (.cells #[.bool x2, .bool y2, .bool a2, .bool b2] 29)).frozen 0
  have u2cf1 := (u2.alloc (.cells #[.bool x2, .bool y2, .bool a2, .bool b2] 29)).frozen 1
  have u2cf2 := (u2.alloc (.cells #[.bool x2, .bool y2, .bool a2, .bool b2] 29)).frozen 2
  have u2cf3 := (u2.alloc (.cells #[.bool x2, .bool y2, .bool a2, .bool b2] 29)).frozen 3
  have v2c0 := (v2.alloc (.cells #[.bool x2, .bool y2, .bool a2, .bool b2] 29)).cell 0
  have v2c1 := (v2.alloc (.cells #[.bool x2, .bool y2, .bool a2, .bool b2] 29)).cell 1
  have v2c2 := (v2.alloc (.cells #[.bool x2, .bool y2, .bool a2, .bool b2] 29)).cell 2
  have v2c3 := (v2.alloc (.cells #[.bool x2, .bool y2, .bool a2, .bool b2] 29)).cell 3
  simp only [List.getElem?_toArray, List.getElem?_cons_zero, List.getElem?_cons_succ] at v2c0 v2c1 v2c2 v2c3
  have v2cf0 := (v2.alloc (.cells #[.bool x2, .bool y2, .bool a2, .bool b2] 29)).frozen 0
  have v2cf1 := (v2.alloc (.cells #[.bool x2, .bool y2, .bool a2, .bool b2] 29)).frozen 1
  have v2cf2 := (v2.alloc (.cells #[.bool x2, .bool y2, .bool a2, .bool b2] 29)).frozen 2
  have v2cf3 := (v2.alloc (.cells #[.bool x2, .bool y2, .bool a2, .bool b2] 29)).frozen 3
  go_wp2
  go_region
  go_wp2
  refine bodyPost_ret (v := .tuple #[Q4 x1 y1 a1 b1, Q4 x2 y2 a2 b2]) (by simp [results, Try.results13, go_sem, u2c0, u2c1, u2c2, u2c3, v2c0, v2c1, v2c2, v2c3]) rfl ⟨rfl, ?_⟩
  exact (below_set4 (below_set4 (B2.alloc B2.size (.cells #[.bool x2, .bool y2, .bool a2, .bool b2] 29)) (by omega) _ _ _ _) (by omega) _ _ _ _).drew

set_option maxHeartbeats 1000000 in
theorem rboth_echo (x y a b x' y' a' b' : Bool) (act : Int) (x1 y1 a1 b1 x2 y2 a2 b2 t x3 y3 a3 b3 t3 e3 : Bool) (HD : Hid (AnsD x y a b act x1 y1 a1 b1 true)) (HH : Hid (AnsH x' y' a' b' act x2 y2 a2 b2 t true)) (HG : Hid (AnsH x1 y1 a1 b1 2 x3 y3 a3 b3 t3 e3)) (w : World) :
    Calls Try.prog 13 #[Q4 x y a b, Q4 x' y' a' b', .int .i64 act] w fun e w' => e = .returned (.tuple #[Q4 x3 y3 a3 b3, Q4 x2 y2 a2 b2]) ∧ Below w.heap.size w w' := by
  go_enter Try.func13, Try.ntmps13
  go_wp2_with fail
  refine (HD _).mono ?_
  rintro e w1 ⟨rfl, hb1⟩
  have B1 : Below w.heap.size w w1 := ((((((((((Below.refl w.heap.size w)).alloc ((Below.refl w.heap.size w)).size (.cells #[.bool x, .bool y, .bool a, .bool b] 29))).alloc ((((Below.refl w.heap.size w)).alloc ((Below.refl w.heap.size w)).size (.cells #[.bool x, .bool y, .bool a, .bool b] 29))).size (.cells #[.bool x', .bool y', .bool a', .bool b'] 29))).alloc ((((((Below.refl w.heap.size w)).alloc ((Below.refl w.heap.size w)).size (.cells #[.bool x, .bool y, .bool a, .bool b] 29))).alloc ((((Below.refl w.heap.size w)).alloc ((Below.refl w.heap.size w)).size (.cells #[.bool x, .bool y, .bool a, .bool b] 29))).size (.cells #[.bool x', .bool y', .bool a', .bool b'] 29))).size (.cells #[.bool false, .bool false, .bool false, .bool false] 29))).alloc ((((((((Below.refl w.heap.size w)).alloc ((Below.refl w.heap.size w)).size (.cells #[.bool x, .bool y, .bool a, .bool b] 29))).alloc ((((Below.refl w.heap.size w)).alloc ((Below.refl w.heap.size w)).size (.cells #[.bool x, .bool y, .bool a, .bool b] 29))).size (.cells #[.bool x', .bool y', .bool a', .bool b'] 29))).alloc ((((((Below.refl w.heap.size w)).alloc ((Below.refl w.heap.size w)).size (.cells #[.bool x, .bool y, .bool a, .bool b] 29))).alloc ((((Below.refl w.heap.size w)).alloc ((Below.refl w.heap.size w)).size (.cells #[.bool x, .bool y, .bool a, .bool b] 29))).size (.cells #[.bool x', .bool y', .bool a', .bool b'] 29))).size (.cells #[.bool false, .bool false, .bool false, .bool false] 29))).size (.cells #[.bool false, .bool false, .bool false, .bool false] 29))).trans (hb1.mono ((((((((((Below.refl w.heap.size w)).alloc ((Below.refl w.heap.size w)).size (.cells #[.bool x, .bool y, .bool a, .bool b] 29))).alloc ((((Below.refl w.heap.size w)).alloc ((Below.refl w.heap.size w)).size (.cells #[.bool x, .bool y, .bool a, .bool b] 29))).size (.cells #[.bool x', .bool y', .bool a', .bool b'] 29))).alloc ((((((Below.refl w.heap.size w)).alloc ((Below.refl w.heap.size w)).size (.cells #[.bool x, .bool y, .bool a, .bool b] 29))).alloc ((((Below.refl w.heap.size w)).alloc ((Below.refl w.heap.size w)).size (.cells #[.bool x, .bool y, .bool a, .bool b] 29))).size (.cells #[.bool x', .bool y', .bool a', .bool b'] 29))).size (.cells #[.bool false, .bool false, .bool false, .bool false] 29))).alloc ((((((((Below.refl w.heap.size w)).alloc ((Below.refl w.heap.size w)).size (.cells #[.bool x, .bool y, .bool a, .bool b] 29))).alloc ((((Below.refl w.heap.size w)).alloc ((Below.refl w.heap.size w)).size (.cells #[.bool x, .bool y, .bool a, .bool b] 29))).size (.cells #[.bool x', .bool y', .bool a', .bool b'] 29))).alloc ((((((Below.refl w.heap.size w)).alloc ((Below.refl w.heap.size w)).size (.cells #[.bool x, .bool y, .bool a, .bool b] 29))).alloc ((((Below.refl w.heap.size w)).alloc ((Below.refl w.heap.size w)).size (.cells #[.bool x, .bool y, .bool a, .bool b] 29))).size (.cells #[.bool x', .bool y', .bool a', .bool b'] 29))).size (.cells #[.bool false, .bool false, .bool false, .bool false] 29))).size (.cells #[.bool false, .bool false, .bool false, .bool false] 29))).size)
  have p1 := ((((Blk.new w 29 #[.bool x, .bool y, .bool a, .bool b]).alloc (.cells #[.bool x', .bool y', .bool a', .bool b'] 29)).alloc (.cells #[.bool false, .bool false, .bool false, .bool false] 29)).alloc (.cells #[.bool false, .bool false, .bool false, .bool false] 29)).below hb1 ((((Blk.new w 29 #[.bool x, .bool y, .bool a, .bool b]).alloc (.cells #[.bool x', .bool y', .bool a', .bool b'] 29)).alloc (.cells #[.bool false, .bool false, .bool false, .bool false] 29)).alloc (.cells #[.bool false, .bool false, .bool false, .bool false] 29)).lt
  have q1 := (((Blk.new (w.alloc (.cells #[.bool x, .bool y, .bool a, .bool b] 29)) 29 #[.bool x', .bool y', .bool a', .bool b']).alloc (.cells #[.bool false, .bool false, .bool false, .bool false] 29)).alloc (.cells #[.bool false, .bool false, .bool false, .bool false] 29)).below hb1 (((Blk.new (w.alloc (.cells #[.bool x, .bool y, .bool a, .bool b] 29)) 29 #[.bool x', .bool y', .bool a', .bool b']).alloc (.cells #[.bool false, .bool false, .bool false, .bool false] 29)).alloc (.cells #[.bool false, .bool false, .bool false, .bool false] 29)).lt
  simp only [World.size_alloc] at q1
  have u1 := ((Blk.new ((w.alloc (.cells #[.bool x, .bool y, .bool a, .bool b] 29)).alloc (.cells #[.bool x', .bool y', .bool a', .bool b'] 29)) 29 #[.bool false, .bool false, .bool false, .bool false]).alloc (.cells #[.bool false, .bool false, .bool false, .bool false] 29)).below hb1 ((Blk.new ((w.alloc (.cells #[.bool x, .bool y, .bool a, .bool b] 29)).alloc (.cells #[.bool x', .bool y', .bool a', .bool b'] 29)) 29 #[.bool false, .bool false, .bool false, .bool false]).alloc (.cells #[.bool false, .bool false, .bool false, .bool false] 29)).lt
  simp only [World.size_alloc] at u1
  have v1 := (Blk.new (((w.alloc (.cells #[.bool x, .bool y, .bool a, .bool b] 29)).alloc (.cells #[.bool x', .bool y', .bool a', .bool b'] 29)).alloc (.cells #[.bool false, .bool false, .bool false, .bool false] 29)) 29 #[.bool false, .bool false, .bool false, .bool false]).below hb1 (Blk.new (((w.alloc (.cells #[.bool x, .bool y, .bool a, .bool b] 29)).alloc (.cells #[.bool x', .bool y', .bool a', .bool b'] 29)).alloc (.cells #[.bool false, .bool false, .bool false, .bool false] 29)) 29 #[.bool false, .bool false, .bool false, .bool false]).lt
  simp only [World.size_alloc] at v1
  clear hb1
  have z1 := v1.lt
  have q1c0 := (q1.alloc (.cells #[.bool x1, .bool y1, .bool a1, .bool b1] 29)).cell 0
  have q1c1 := (q1.alloc (.cells #[.bool x1, .bool y1, .bool a1, .bool b1] 29)).cell 1
  have q1c2 := (q1.alloc (.cells #[.bool x1, .bool y1, .bool a1, .bool b1] 29)).cell 2
  have q1c3 := (q1.alloc (.cells #[.bool x1, .bool y1, .bool a1, .bool b1] 29)).cell 3
  simp only [List.getElem?_toArray, List.getElem?_cons_zero, List.getElem?_cons_succ] at q1c0 q1c1 q1c2 q1c3
  go_wp2_with fail
  refine (HH _).mono ?_
  rintro e w2 ⟨rfl, hb2⟩
  have B2 : Below w.heap.size w w2 := (((B1).alloc (B1).size (.cells #[.bool x1, .bool y1, .bool a1, .bool b1] 29))).trans (hb2.mono (((B1).alloc (B1).size (.cells #[.bool x1, .bool y1, .bool a1, .bool b1] 29))).size)
  have p2 := (((p1).alloc (.cells #[.bool x1, .bool y1, .bool a1, .bool b1] 29))).below hb2 (((p1).alloc (.cells #[.bool x1, .bool y1, .bool a1, .bool b1] 29))).lt
  have q2 := (((q1).alloc (.cells #[.bool x1, .bool y1, .bool a1, .bool b1] 29))).below hb2 (((q1).alloc (.cells #[.bool x1, .bool y1, .bool a1, .bool b1] 29))).lt
  have u2 := (((u1).alloc (.cells #[.bool x1, .bool y1, .bool a1, .bool b1] 29))).below hb2 (((u1).alloc (.cells #[.bool x1, .bool y1, .bool a1, .bool b1] 29))).lt
  have v2 := (((v1).alloc (.cells #[.bool x1, .bool y1, .bool a1, .bool b1] 29))).below hb2 (((v1).alloc (.cells #[.bool x1, .bool y1, .bool a1, .bool b1] 29))).lt
  have r2 := (Blk.new w1 29 #[.bool x1, .bool y1, .bool a1, .bool b1]).below hb2 (Blk.new w1 29 #[.bool x1, .bool y1, .bool a1, .bool b1]).lt
  clear hb2 B1 p1 q1 u1 v1
  clear q1c0 q1c1 q1c2 q1c3
  have z2 := v2.lt
  have z12 := r2.lt
  have n0 : ¬ w1.heap.size = w.heap.size := by omega
  have n0' : ¬ w.heap.size = w1.heap.size := by omega
  have n1 : ¬ w1.heap.size = w.heap.size + 1 := by omega
  have n1' : ¬ w.heap.size + 1 = w1.heap.size := by omega
  have n2 : ¬ w1.heap.size = w.heap.size + 1 + 1 := by omega
  have n2' : ¬ w.heap.size + 1 + 1 = w1.heap.size := by omega
  have n3 : ¬ w1.heap.size = w.heap.size + 1 + 1 + 1 := by omega
  have n3' : ¬ w.heap.size + 1 + 1 + 1 = w1.heap.size := by omega
  have k0 : ¬ w2.heap.size = w.heap.size := by omega
  have k0' : ¬ w.heap.size = w2.heap.size := by omega
  have k1 : ¬ w2.heap.size = w.heap.size + 1 := by omega
  have k1' : ¬ w.heap.size + 1 = w2.heap.size := by omega
  have k2 : ¬ w2.heap.size = w.heap.size + 1 + 1 := by omega
  have k2' : ¬ w.heap.size + 1 + 1 = w2.heap.size := by omega
  have k3 : ¬ w2.heap.size = w.heap.size + 1 + 1 + 1 := by omega
  have k3' : ¬ w.heap.size + 1 + 1 + 1 = w2.heap.size := by omega
  have k9 : ¬ w2.heap.size = w1.heap.size := by omega
  have k9' : ¬ w1.heap.size = w2.heap.size := by omega
  have r2c0 := (r2.alloc (.cells #[.bool x2, .bool y2, .bool a2, .bool b2] 29)).cell 0
  have r2c1 := (r2.alloc (.cells #[.bool x2, .bool y2, .bool a2, .bool b2] 29)).cell 1
  have r2c2 := (r2.alloc (.cells #[.bool x2, .bool y2, .bool a2, .bool b2] 29)).cell 2
  have r2c3 := (r2.alloc (.cells #[.bool x2, .bool y2, .bool a2, .bool b2] 29)).cell 3
  simp only [List.getElem?_toArray, List.getElem?_cons_zero, List.getElem?_cons_succ] at r2c0 r2c1 r2c2 r2c3
  go_wp2_with fail
  refine (HG _).mono ?_
  rintro e w3 ⟨rfl, hb3⟩
  have B3 : Below w.heap.size w w3 := (((B2).alloc (B2).size (.cells #[.bool x2, .bool y2, .bool a2, .bool b2] 29))).trans (hb3.mono (((B2).alloc (B2).size (.cells #[.bool x2, .bool y2, .bool a2, .bool b2] 29))).size)
  have p3 := (((p2).alloc (.cells #[.bool x2, .bool y2, .bool a2, .bool b2] 29))).below hb3 (((p2).alloc (.cells #[.bool x2, .bool y2, .bool a2, .bool b2] 29))).lt
  have q3 := (((q2).alloc (.cells #[.bool x2, .bool y2, .bool a2, .bool b2] 29))).below hb3 (((q2).alloc (.cells #[.bool x2, .bool y2, .bool a2, .bool b2] 29))).lt
  have u3 := (((u2).alloc (.cells #[.bool x2, .bool y2, .bool a2, .bool b2] 29))).below hb3 (((u2).alloc (.cells #[.bool x2, .bool y2, .bool a2, .bool b2] 29))).lt
  have v3 := (((v2).alloc (.cells #[.bool x2, .bool y2, .bool a2, .bool b2] 29))).below hb3 (((v2).alloc (.cells #[.bool x2, .bool y2, .bool a2, .bool b2] 29))).lt
  have r3 := (((r2).alloc (.cells #[.bool x2, .bool y2, .bool a2, .bool b2] 29))).below hb3 (((r2).alloc (.cells #[.bool x2, .bool y2, .bool a2, .bool b2] 29))).lt
  have o3 := (Blk.new w2 29 #[.bool x2, .bool y2, .bool a2, .bool b2]).below hb3 (Blk.new w2 29 #[.bool x2, .bool y2, .bool a2, .bool b2]).lt
  clear hb3 B2 p2 q2 u2 v2 r2
  clear r2c0 r2c1 r2c2 r2c3
  have z3 := v3.lt
  have z23 := o3.lt
  have j0 : ¬ w3.heap.size = w.heap.size := by omega
  have j0' : ¬ w.heap.size = w3.heap.size := by omega
  have j1 : ¬ w3.heap.size = w.heap.size + 1 := by omega
  have j1' : ¬ w.heap.size + 1 = w3.heap.size := by omega
  have j2 : ¬ w3.heap.size = w.heap.size + 1 + 1 := by omega
  have j2' : ¬ w.heap.size + 1 + 1 = w3.heap.size := by omega
  have j3 : ¬ w3.heap.size = w.heap.size + 1 + 1 + 1 := by omega
  have j3' : ¬ w.heap.size + 1 + 1 + 1 = w3.heap.size := by omega
  have l9 : ¬ w3.heap.size = w1.heap.size := by omega
  have l9' : ¬ w1.heap.size = w3.heap.size := by omega
  have m9 : ¬ w3.heap.size = w2.heap.size := by omega
  have m9' : ¬ w2.heap.size = w3.heap.size := by omega
  have r3c0 := (r3.alloc (.cells #[.bool x3, .bool y3, .bool a3, .bool b3] 29)).cell 0
  have r3c1 := (r3.alloc (.cells #[.bool x3, .bool y3, .bool a3, .bool b3] 29)).cell 1
  have r3c2 := (r3.alloc (.cells #[.bool x3, .bool y3, .bool a3, .bool b3] 29)).cell 2
  have r3c3 := (r3.alloc (.cells #[.bool x3, .bool y3, .bool a3, .bool b3] 29)).cell 3
  simp only [List.getElem?_toArray, List.getElem?_cons_zero, List.getElem?_cons_succ] at r3c0 r3c1 r3c2 r3c3
  have r3cf0 := (r3.alloc (.cells #[.bool x3, .bool y3, .bool a3, .bool b3] 29)).frozen 0
  have r3cf1 := (r3.alloc (.cells #[.bool x3, .bool y3, .bool a3, .bool b3] 29)).frozen 1
  have r3cf2 := (r3.alloc (.cells #[.bool x3, .bool y3, .bool a3, .bool b3] 29)).frozen 2
  have r3cf3 := (r3.alloc (.cells #[.bool x3, .bool y3, .bool a3, .bool b3] 29)).frozen 3
  have o3c0 := (o3.alloc (.cells #[.bool x3, .bool y3, .bool a3, .bool b3] 29)).cell 0
  have o3c1 := (o3.alloc (.cells #[.bool x3, .bool y3, .bool a3, .bool b3] 29)).cell 1
  have o3c2 := (o3.alloc (.cells #[.bool x3, .bool y3, .bool a3, .bool b3] 29)).cell 2
  have o3c3 := (o3.alloc (.cells #[.bool x3, .bool y3, .bool a3, .bool b3] 29)).cell 3
  simp only [List.getElem?_toArray, List.getElem?_cons_zero, List.getElem?_cons_succ] at o3c0 o3c1 o3c2 o3c3
  have u3c0 := (u3.alloc (.cells #[.bool x3, .bool y3, .bool a3, .bool b3] 29)).cell 0
  have u3c1 := (u3.alloc (.cells #[.bool x3, .bool y3, .bool a3, .bool b3] 29)).cell 1
  have u3c2 := (u3.alloc (.cells #[.bool x3, .bool y3, .bool a3, .bool b3] 29)).cell 2
  have u3c3 := (u3.alloc (.cells #[.bool x3, .bool y3, .bool a3, .bool b3] 29)).cell 3
  simp only [List.getElem?_toArray, List.getElem?_cons_zero, List.getElem?_cons_succ] at u3c0 u3c1 u3c2 u3c3
  have u3cf0 := (u3.alloc (.cells #[.bool x3, .bool y3, .bool a3, .bool b3] 29)).frozen 0
  have u3cf1 := (u3.alloc (.cells #[.bool x3, .bool y3, .bool a3, .bool b3] 29)).frozen 1
  have u3cf2 := (u3.alloc (.cells #[.bool x3, .bool y3, .bool a3, .bool b3] 29)).frozen 2
  have u3cf3 := (u3.alloc (.cells #[.bool x3, .bool y3, .bool a3, .bool b3] 29)).frozen 3
  have v3c0 := (v3.alloc (.cells #[.bool x3, .bool y3, .bool a3, .bool b3] 29)).cell 0
  have v3c1 := (v3.alloc (.cells #[.bool x3, .bool y3, .bool a3, .bool b3] 29)).cell 1
  have v3c2 := (v3.alloc (.cells #[.bool x3, .bool y3, .bool a3, .bool b3] 29)).cell 2
  have v3c3 := (v3.alloc (.cells #[.bool x3, .bool y3, .bool a3, .bool b3] 29)).cell 3
  simp only [List.getElem?_toArray, List.getElem?_cons_zero, List.getElem?_cons_succ] at v3c0 v3c1 v3c2 v3c3
  have v3cf0 := (v3.alloc (.cells #[.bool x3, .bool y3, .bool a3, .bool b3] 29)).frozen 0
  have v3cf1 := (v3.alloc (.cells #[.bool x3, .bool y3, .bool a3, .bool b3] 29)).frozen 1
  have v3cf2 := (v3.alloc (.cells #[.bool x3, .bool y3, .bool a3, .bool b3] 29)).frozen 2
  have v3cf3 := (v3.alloc (.cells #[.bool x3, .bool y3, .bool a3, .bool b3] 29)).frozen 3
  go_wp2
  go_region
  go_wp2
  refine bodyPost_ret (v := .tuple #[Q4 x3 y3 a3 b3, Q4 x2 y2 a2 b2]) (by simp [results, Try.results13, go_sem, u3c0, u3c1, u3c2, u3c3, v3c0, v3c1, v3c2, v3c3]) rfl ⟨rfl, ?_⟩
  exact (below_set4 (below_set4 (below_set4 (B3.alloc B3.size (.cells #[.bool x3, .bool y3, .bool a3, .bool b3] 29)) (g := w1.heap.size) (by omega) _ _ _ _) (by omega) _ _ _ _) (by omega) _ _ _ _).drew
end Go.Proofs.Ytajdhlcnfmlkiaa
