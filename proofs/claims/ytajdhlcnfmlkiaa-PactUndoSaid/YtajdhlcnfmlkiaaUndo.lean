/- PactUndo, the row: of sides that fit, what leaving, refusing, asking and granting bring, after any acts in any turns: the law answers true, and its arguments read as they did. No condition. -/
import Derived.Test.YtajdhlcnfmlkiaaFits
import Derived.Test.YtajdhlcnfmlkiaaBoth
namespace Go.Proofs.Ytajdhlcnfmlkiaa
open Go.RowKit Go.Joins Go.ChangeShapes Go.WideShapes Go.ChangeAt
attribute [local go_sem ↓] Go.wp_at_zero Go.wp_at_succ

def BothAt (n : Int) (a b : Bool) (m : Int) (c d : Bool) (act n' : Int) (a' b' : Bool) (m' : Int) (c' d' : Bool) : Prop :=
  ∀ w : World, Calls Try.prog 9 #[S n a b, S m c d, .int .i64 act] w fun e w' => e = .returned (.tuple #[S n' a' b', S m' c' d', .int .i64 0]) ∧ Below w.heap.size w w'
/-- What the law's last part asks of two sides. -/
def Tail (sn : Int) (sa sb : Bool) (sm : Int) (sc sd : Bool) (cn dn en fn gn un kn ln : Int) (da db ea fa fb ga gb ua ub ka kb la lb : Bool) : Prop :=
  Hid (BothAt sn sa sb sm sc sd 3 cn false sb dn da db) ∧ Hid (BothAt sn sa sb sm sc sd 4 en ea false fn fa fb) ∧ Hid (BothAt sn sa sb sm sc sd 1 gn ga gb un ua ub) ∧ Hid (BothAt un ua ub gn ga gb 2 kn ka kb ln la lb) ∧
    Hid (seesB cn = false) ∧ Hid (seenB cn = seenB sn) ∧ Hid (seenB en = false) ∧ Hid (seesB en = seesB sn) ∧ Hid (seesB fn = false) ∧ Hid (seesB ln = true) ∧ Hid (seenB kn = true) ∧ Hid (seenB ln = seenB sn)

theorem tail_of (sn : Int) (sa sb : Bool) (sm : Int) (sc sd : Bool) (h : okB sn sa sb sm sc sd = true) : ∃ (cn dn en fn gn un kn ln : Int) (da db ea fa fb ga gb ua ub ka kb la lb : Bool), Tail sn sa sb sm sc sd cn dn en fn gn un kn ln da db ea fa fb ga gb ua ub ka kb la lb := by
  obtain ⟨hn, hm, _, _⟩ := ok_parts h
  have o1 := ok_both sn sa sb sm sc sd 1 h (by omega) (by omega)
  obtain ⟨r1, r2, _, _⟩ := ok_parts o1
  have law : bxA sn sa sb sm 3 = false ∧ bxB sn sa sb sm 3 = sb ∧ bxB sn sa sb sm 4 = false ∧ seesB (bxN sn sa sb sm 3) = false ∧ seenB (bxN sn sa sb sm 3) = seenB sn ∧ seenB (bxN sn sa sb sm 4) = false ∧ seesB (bxN sn sa sb sm 4) = seesB sn ∧ seesB (byN sn sa sb sm sc sd 4) = false ∧
      seesB (byN (byN sn sa sb sm sc sd 1) (byA sn sa sb sm sc sd 1) (byB sn sa sb sm sc sd 1) (bxN sn sa sb sm 1) (bxA sn sa sb sm 1) (bxB sn sa sb sm 1) 2) = true ∧
      seenB (bxN (byN sn sa sb sm sc sd 1) (byA sn sa sb sm sc sd 1) (byB sn sa sb sm sc sd 1) (bxN sn sa sb sm 1) 2) = true ∧
      seenB (byN (byN sn sa sb sm sc sd 1) (byA sn sa sb sm sc sd 1) (byB sn sa sb sm sc sd 1) (bxN sn sa sb sm 1) (bxA sn sa sb sm 1) (bxB sn sa sb sm 1) 2) = seenB sn := by
    clear r1 r2 o1
    obtain ⟨k0, k3⟩ := right_bd hn
    obtain ⟨g0, g3⟩ := right_bd hm
    rcases small4 k0 k3 with rfl | rfl | rfl | rfl <;> rcases small4 g0 g3 with rfl | rfl | rfl | rfl <;> cases sa <;> cases sb <;> cases sc <;> cases sd <;> first | (exfalso; revert h; decide) | decide
  obtain ⟨e1, e2, e3, l1, l2, l3, l4, l5, l6, l7, l8⟩ := law
  refine ⟨_, byN sn sa sb sm sc sd 3, _, _, _, _, _, _, byA sn sa sb sm sc sd 3, byB sn sa sb sm sc sd 3, bxA sn sa sb sm 4, byA sn sa sb sm sc sd 4, byB sn sa sb sm sc sd 4, _, _, _, _, _, _, _, _, (fun w => ?_), (fun w => ?_), (fun w => both_ok sn sa sb sm sc sd 1 hn hm (by omega) (by omega) w), (fun w => both_ok _ _ _ _ _ _ 2 r2 r1 (by omega) (by omega) w), l1, l2, l3, l4, l5, l6, l7, l8⟩
  · have e := both_ok sn sa sb sm sc sd 3 hn hm (by omega) (by omega) w
    rwa [e1, e2] at e
  · have e := both_ok sn sa sb sm sc sd 4 hn hm (by omega) (by omega) w
    rwa [e3] at e

set_option maxRecDepth 100000 in
set_option maxHeartbeats 16000000 in
theorem undo_any (A B : Option Addr) (n ca m cb : Nat) (w : World) (hn : n ≤ 9223372036854775807) (hA : Hid (IntsAt w A n)) (hB : Hid (BoolsAt w B m)) :
    Calls Try.prog 5 #[.slice A n ca, .slice B m cb] w fun e w' => e = .returned (.bool true) ∧ Below w.heap.size w w' := by
  go_enter Try.func5, Try.ntmps5
  go_wp2_with fail
  refine (lives_any _).mono ?_
  rintro e w1 ⟨rfl, hb1⟩
  have hz1 := hb1.size
  go_wp2_with fail
  go_loopw [7] (fun i wr => FitsRel w w1.heap.size n i wr) (fun i _ => n - (intOf i).toNat)
  case atStart =>
    have b0 := Blk.new (w1.alloc (.cells #[.int .i64 0, .bool false, .bool false] 23)) 23 #[.int .i64 0, .bool false, .bool false]
    simp only [World.size_alloc] at b0
    exact ⟨0, by omega, rfl, 0, false, false, 0, false, false, by decide, (Blk.new _ _ _).alloc _, b0, (hb1.alloc hz1 _).alloc (by simp; omega) _⟩
  case round =>
    obtain ⟨k, hk, rfl, sn, sa, sb, sm, sc, sd, hok, ha, hb, hB'⟩ := hrel
    by_cases hlt : k < n
    · by_cases h2 : k < 60
      · obtain ⟨g, o, z, rfl, hg, hc⟩ := (show IntsAt w A n from hA) k hlt
        have hc' := (hB'.cell (p := ⟨g, o + k, none⟩) hg).trans hc
        obtain ⟨ra0, rb0, _, _⟩ := ok_parts hok
        have ra := Lib.hid ra0
        have rb := Lib.hid rb0
        clear ra0 rb0
        have ok := Lib.hid hok
        clear hok
        obtain ⟨x0, x1, x2, _, _, _⟩ := ha.side
        obtain ⟨y0, y1, y2, _, _, _⟩ := hb.side
        by_cases hkm : k < m
        · obtain ⟨g', o', t, rfl, hg', hd⟩ := (show BoolsAt w B m from hB) k hkm
          have hdk := fun (W : World) (hW : Below wr.heap.size wr W) => (hW.cell (p := ⟨g', o' + k, none⟩) (Nat.lt_of_lt_of_le hg' hB'.size)).trans ((hB'.cell (p := ⟨g', o' + k, none⟩) hg').trans hd)
          have HDK := Lib.hid hdk
          clear hdk
          cases t
          · skip
            go_wp2_with fail
            generalize hact : wrap64 (1 + wrap64 ((IntKind.u64.wrap z).tmod 4)) = act
            have c1 : 1 ≤ act := by rw [← hact]; exact (act_bd z).1
            have c4 : act ≤ 4 := by rw [← hact]; exact (act_bd z).2
            clear hact
            refine (both_ok sn sa sb sm sc sd act ra.out rb.out c1 c4 _).mono ?_
            rintro e w2 ⟨rfl, hb2⟩
            have hd2 := HDK.out ((w2.alloc (.cells #[.int .i64 (bxN sn sa sb sm act), .bool (bxA sn sa sb sm act), .bool (bxB sn sa sb sm act)] 23)).alloc (.cells #[.int .i64 (byN sn sa sb sm sc sd act), .bool (byA sn sa sb sm sc sd act), .bool (byB sn sa sb sm sc sd act)] 23)) ((hb2.alloc hb2.size _).alloc (hb2.alloc hb2.size _).size _)
            have z2 : w1.heap.size + 1 < w2.heap.size := Nat.lt_of_lt_of_le hb.lt hb2.size
            have a2 := ha.below hb2 ha.lt
            have b2 := hb.below hb2 hb.lt
            have B2 := hB'.trans (hb2.mono hB'.size)
            clear hb2 x0 x1 x2 y0 y1 y2 ha hb hB'
            have a3 := (a2.alloc (.cells #[.int .i64 (bxN sn sa sb sm act), .bool (bxA sn sa sb sm act), .bool (bxB sn sa sb sm act)] 23)).alloc (.cells #[.int .i64 (byN sn sa sb sm sc sd act), .bool (byA sn sa sb sm sc sd act), .bool (byB sn sa sb sm sc sd act)] 23)
            have b3 := (b2.alloc (.cells #[.int .i64 (bxN sn sa sb sm act), .bool (bxA sn sa sb sm act), .bool (bxB sn sa sb sm act)] 23)).alloc (.cells #[.int .i64 (byN sn sa sb sm sc sd act), .bool (byA sn sa sb sm sc sd act), .bool (byB sn sa sb sm sc sd act)] 23)
            have x3 := (Blk.new w2 23 #[.int .i64 (bxN sn sa sb sm act), .bool (bxA sn sa sb sm act), .bool (bxB sn sa sb sm act)]).alloc (.cells #[.int .i64 (byN sn sa sb sm sc sd act), .bool (byA sn sa sb sm sc sd act), .bool (byB sn sa sb sm sc sd act)] 23)
            have y3 := Blk.new (w2.alloc (.cells #[.int .i64 (bxN sn sa sb sm act), .bool (bxA sn sa sb sm act), .bool (bxB sn sa sb sm act)] 23)) 23 #[.int .i64 (byN sn sa sb sm sc sd act), .bool (byA sn sa sb sm sc sd act), .bool (byB sn sa sb sm sc sd act)]
            simp only [World.size_alloc] at y3
            have B3 := (B2.alloc B2.size (.cells #[.int .i64 (bxN sn sa sb sm act), .bool (bxA sn sa sb sm act), .bool (bxB sn sa sb sm act)] 23)).alloc (B2.alloc B2.size (.cells #[.int .i64 (bxN sn sa sb sm act), .bool (bxA sn sa sb sm act), .bool (bxB sn sa sb sm act)] 23)).size (.cells #[.int .i64 (byN sn sa sb sm sc sd act), .bool (byA sn sa sb sm sc sd act), .bool (byB sn sa sb sm sc sd act)] 23)
            have r0 := a3.cell 0
            have r1 := a3.cell 1
            have r2 := a3.cell 2
            have s0 := b3.cell 0
            have s1 := b3.cell 1
            have s2 := b3.cell 2
            have t0 := x3.cell 0
            have t1 := x3.cell 1
            have t2 := x3.cell 2
            have u0 := y3.cell 0
            have u1 := y3.cell 1
            have u2 := y3.cell 2
            simp only [List.getElem?_toArray, List.getElem?_cons_zero, List.getElem?_cons_succ] at r0 r1 r2 s0 s1 s2 t0 t1 t2 u0 u1 u2
            have rf0 := a3.frozen 0
            have rf1 := a3.frozen 1
            have rf2 := a3.frozen 2
            have sf0 := b3.frozen 0
            have sf1 := b3.frozen 1
            have sf2 := b3.frozen 2
            have y4 := y3.far3 (g' := w1.heap.size) (by omega) (.int .i64 (bxN sn sa sb sm act)) (.bool (bxA sn sa sb sm act)) (.bool (bxB sn sa sb sm act))
            have v0 := y4.cell 0
            have v1 := y4.cell 1
            have v2 := y4.cell 2
            simp only [List.getElem?_toArray, List.getElem?_cons_zero, List.getElem?_cons_succ] at v0 v1 v2
            have a5 := (a3.store3 (x' := .int .i64 (bxN sn sa sb sm act)) (y' := .bool (bxA sn sa sb sm act)) (z' := .bool (bxB sn sa sb sm act))).far3 (g' := w1.heap.size + 1) (by omega) (.int .i64 (byN sn sa sb sm sc sd act)) (.bool (byA sn sa sb sm sc sd act)) (.bool (byB sn sa sb sm sc sd act))
            have b5 := (b3.far3 (g' := w1.heap.size) (by omega) (.int .i64 (bxN sn sa sb sm act)) (.bool (bxA sn sa sb sm act)) (.bool (bxB sn sa sb sm act))).store3 (x' := .int .i64 (byN sn sa sb sm sc sd act)) (y' := .bool (byA sn sa sb sm sc sd act)) (z' := .bool (byB sn sa sb sm sc sd act))
            have B5 := below_set3 (below_set3 B3 (g := w1.heap.size) (by omega) (.int .i64 (bxN sn sa sb sm act)) (.bool (bxA sn sa sb sm act)) (.bool (bxB sn sa sb sm act))) (g := w1.heap.size + 1) (by omega) (.int .i64 (byN sn sa sb sm sc sd act)) (.bool (byA sn sa sb sm sc sd act)) (.bool (byB sn sa sb sm sc sd act))
            clear a3 b3 x3 y3 y4 B3
            have ok2 := ok_both sn sa sb sm sc sd act ok.out c1 c4
            have OK2 := Lib.hid ok2
            clear ok2
            go_wp2
            exact ⟨fits_next hlt OK2 a5 b5 B5, by simp [intOf]; omega⟩
          · skip
            go_wp2_with fail
            generalize hact : wrap64 (1 + wrap64 ((IntKind.u64.wrap z).tmod 4)) = act
            have c1 : 1 ≤ act := by rw [← hact]; exact (act_bd z).1
            have c4 : act ≤ 4 := by rw [← hact]; exact (act_bd z).2
            clear hact
            refine (both_ok sn sa sb sm sc sd act ra.out rb.out c1 c4 _).mono ?_
            rintro e w2 ⟨rfl, hb2⟩
            have hd2 := HDK.out ((w2.alloc (.cells #[.int .i64 (bxN sn sa sb sm act), .bool (bxA sn sa sb sm act), .bool (bxB sn sa sb sm act)] 23)).alloc (.cells #[.int .i64 (byN sn sa sb sm sc sd act), .bool (byA sn sa sb sm sc sd act), .bool (byB sn sa sb sm sc sd act)] 23)) ((hb2.alloc hb2.size _).alloc (hb2.alloc hb2.size _).size _)
            have z2 : w1.heap.size + 1 < w2.heap.size := Nat.lt_of_lt_of_le hb.lt hb2.size
            have a2 := ha.below hb2 ha.lt
            have b2 := hb.below hb2 hb.lt
            have B2 := hB'.trans (hb2.mono hB'.size)
            clear hb2 x0 x1 x2 y0 y1 y2 ha hb hB'
            have p0 := fun o o' => ((a2.alloc o).alloc o').cell 0
            have p1 := fun o o' => ((a2.alloc o).alloc o').cell 1
            have p2 := fun o o' => ((a2.alloc o).alloc o').cell 2
            have q0 := fun o o' => ((b2.alloc o).alloc o').cell 0
            have q1 := fun o o' => ((b2.alloc o).alloc o').cell 1
            have q2 := fun o o' => ((b2.alloc o).alloc o').cell 2
            simp only [List.getElem?_toArray, List.getElem?_cons_zero, List.getElem?_cons_succ] at p0 p1 p2 q0 q1 q2
            go_wp2_with fail
            refine (both_ok sm sc sd sn sa sb act rb.out ra.out c1 c4 _).mono ?_
            rintro e w3 ⟨rfl, hb3⟩
            have y2 := Blk.new (w2.alloc (.cells #[.int .i64 (bxN sn sa sb sm act), .bool (bxA sn sa sb sm act), .bool (bxB sn sa sb sm act)] 23)) 23 #[.int .i64 (byN sn sa sb sm sc sd act), .bool (byA sn sa sb sm sc sd act), .bool (byB sn sa sb sm sc sd act)]
            simp only [World.size_alloc] at y2
            have a3 := ((a2.alloc (.cells #[.int .i64 (bxN sn sa sb sm act), .bool (bxA sn sa sb sm act), .bool (bxB sn sa sb sm act)] 23)).alloc (.cells #[.int .i64 (byN sn sa sb sm sc sd act), .bool (byA sn sa sb sm sc sd act), .bool (byB sn sa sb sm sc sd act)] 23)).below hb3 ((a2.alloc (.cells #[.int .i64 (bxN sn sa sb sm act), .bool (bxA sn sa sb sm act), .bool (bxB sn sa sb sm act)] 23)).alloc (.cells #[.int .i64 (byN sn sa sb sm sc sd act), .bool (byA sn sa sb sm sc sd act), .bool (byB sn sa sb sm sc sd act)] 23)).lt
            have b3 := ((b2.alloc (.cells #[.int .i64 (bxN sn sa sb sm act), .bool (bxA sn sa sb sm act), .bool (bxB sn sa sb sm act)] 23)).alloc (.cells #[.int .i64 (byN sn sa sb sm sc sd act), .bool (byA sn sa sb sm sc sd act), .bool (byB sn sa sb sm sc sd act)] 23)).below hb3 ((b2.alloc (.cells #[.int .i64 (bxN sn sa sb sm act), .bool (bxA sn sa sb sm act), .bool (bxB sn sa sb sm act)] 23)).alloc (.cells #[.int .i64 (byN sn sa sb sm sc sd act), .bool (byA sn sa sb sm sc sd act), .bool (byB sn sa sb sm sc sd act)] 23)).lt
            have x3' := ((Blk.new w2 23 #[.int .i64 (bxN sn sa sb sm act), .bool (bxA sn sa sb sm act), .bool (bxB sn sa sb sm act)]).alloc (.cells #[.int .i64 (byN sn sa sb sm sc sd act), .bool (byA sn sa sb sm sc sd act), .bool (byB sn sa sb sm sc sd act)] 23)).below hb3 ((Blk.new w2 23 #[.int .i64 (bxN sn sa sb sm act), .bool (bxA sn sa sb sm act), .bool (bxB sn sa sb sm act)]).alloc (.cells #[.int .i64 (byN sn sa sb sm sc sd act), .bool (byA sn sa sb sm sc sd act), .bool (byB sn sa sb sm sc sd act)] 23)).lt
            have y3' := y2.below hb3 y2.lt
            have B3' := ((B2.alloc B2.size (.cells #[.int .i64 (bxN sn sa sb sm act), .bool (bxA sn sa sb sm act), .bool (bxB sn sa sb sm act)] 23)).alloc (B2.alloc B2.size (.cells #[.int .i64 (bxN sn sa sb sm act), .bool (bxA sn sa sb sm act), .bool (bxB sn sa sb sm act)] 23)).size (.cells #[.int .i64 (byN sn sa sb sm sc sd act), .bool (byA sn sa sb sm sc sd act), .bool (byB sn sa sb sm sc sd act)] 23)).trans (hb3.mono ((B2.alloc B2.size (.cells #[.int .i64 (bxN sn sa sb sm act), .bool (bxA sn sa sb sm act), .bool (bxB sn sa sb sm act)] 23)).alloc (B2.alloc B2.size (.cells #[.int .i64 (bxN sn sa sb sm act), .bool (bxA sn sa sb sm act), .bool (bxB sn sa sb sm act)] 23)).size (.cells #[.int .i64 (byN sn sa sb sm sc sd act), .bool (byA sn sa sb sm sc sd act), .bool (byB sn sa sb sm sc sd act)] 23)).size)
            clear hb3 y2 a2 b2 B2 p0 p1 p2 q0 q1 q2
            have p0 := x3'.cell 0
            have p1 := x3'.cell 1
            have p2 := x3'.cell 2
            have q0 := y3'.cell 0
            have q1 := y3'.cell 1
            have q2 := y3'.cell 2
            simp only [List.getElem?_toArray, List.getElem?_cons_zero, List.getElem?_cons_succ] at p0 p1 p2 q0 q1 q2
            have pf0 := x3'.frozen 0
            have pf1 := x3'.frozen 1
            have pf2 := x3'.frozen 2
            have qf0 := y3'.frozen 0
            have qf1 := y3'.frozen 1
            have qf2 := y3'.frozen 2
            have a4 := ((a3.far3 (g' := (w2.heap.size + 1)) (by omega) (.int .i64 (bxN sm sc sd sn act)) (.bool (bxA sm sc sd sn act)) (.bool (bxB sm sc sd sn act))).far3 (g' := w2.heap.size) (by omega) (.int .i64 (byN sm sc sd sn sa sb act)) (.bool (byA sm sc sd sn sa sb act)) (.bool (byB sm sc sd sn sa sb act)))
            have b4 := ((b3.far3 (g' := (w2.heap.size + 1)) (by omega) (.int .i64 (bxN sm sc sd sn act)) (.bool (bxA sm sc sd sn act)) (.bool (bxB sm sc sd sn act))).far3 (g' := w2.heap.size) (by omega) (.int .i64 (byN sm sc sd sn sa sb act)) (.bool (byA sm sc sd sn sa sb act)) (.bool (byB sm sc sd sn sa sb act)))
            have x3 := ((x3'.far3 (g' := (w2.heap.size + 1)) (by omega) (.int .i64 (bxN sm sc sd sn act)) (.bool (bxA sm sc sd sn act)) (.bool (bxB sm sc sd sn act))).store3 (x' := .int .i64 (byN sm sc sd sn sa sb act)) (y' := .bool (byA sm sc sd sn sa sb act)) (z' := .bool (byB sm sc sd sn sa sb act)))
            have y3 := ((y3'.store3 (x' := .int .i64 (bxN sm sc sd sn act)) (y' := .bool (bxA sm sc sd sn act)) (z' := .bool (bxB sm sc sd sn act))).far3 (g' := w2.heap.size) (by omega) (.int .i64 (byN sm sc sd sn sa sb act)) (.bool (byA sm sc sd sn sa sb act)) (.bool (byB sm sc sd sn sa sb act)))
            have B3 := below_set3 (below_set3 B3' (g := w2.heap.size + 1) (by omega) (.int .i64 (bxN sm sc sd sn act)) (.bool (bxA sm sc sd sn act)) (.bool (bxB sm sc sd sn act))) (g := w2.heap.size) (by omega) (.int .i64 (byN sm sc sd sn sa sb act)) (.bool (byA sm sc sd sn sa sb act)) (.bool (byB sm sc sd sn sa sb act))
            clear a3 b3 x3' y3' B3'
            have a3 := a4
            have b3 := b4
            clear a4 b4
            have r0 := a3.cell 0
            have r1 := a3.cell 1
            have r2 := a3.cell 2
            have s0 := b3.cell 0
            have s1 := b3.cell 1
            have s2 := b3.cell 2
            have t0 := x3.cell 0
            have t1 := x3.cell 1
            have t2 := x3.cell 2
            have u0 := y3.cell 0
            have u1 := y3.cell 1
            have u2 := y3.cell 2
            simp only [List.getElem?_toArray, List.getElem?_cons_zero, List.getElem?_cons_succ] at r0 r1 r2 s0 s1 s2 t0 t1 t2 u0 u1 u2
            have rf0 := a3.frozen 0
            have rf1 := a3.frozen 1
            have rf2 := a3.frozen 2
            have sf0 := b3.frozen 0
            have sf1 := b3.frozen 1
            have sf2 := b3.frozen 2
            have y4 := y3.far3 (g' := w1.heap.size) (by omega) (.int .i64 (byN sm sc sd sn sa sb act)) (.bool (byA sm sc sd sn sa sb act)) (.bool (byB sm sc sd sn sa sb act))
            have v0 := y4.cell 0
            have v1 := y4.cell 1
            have v2 := y4.cell 2
            simp only [List.getElem?_toArray, List.getElem?_cons_zero, List.getElem?_cons_succ] at v0 v1 v2
            have a5 := (a3.store3 (x' := .int .i64 (byN sm sc sd sn sa sb act)) (y' := .bool (byA sm sc sd sn sa sb act)) (z' := .bool (byB sm sc sd sn sa sb act))).far3 (g' := w1.heap.size + 1) (by omega) (.int .i64 (bxN sm sc sd sn act)) (.bool (bxA sm sc sd sn act)) (.bool (bxB sm sc sd sn act))
            have b5 := (b3.far3 (g' := w1.heap.size) (by omega) (.int .i64 (byN sm sc sd sn sa sb act)) (.bool (byA sm sc sd sn sa sb act)) (.bool (byB sm sc sd sn sa sb act))).store3 (x' := .int .i64 (bxN sm sc sd sn act)) (y' := .bool (bxA sm sc sd sn act)) (z' := .bool (bxB sm sc sd sn act))
            have B5 := below_set3 (below_set3 B3 (g := w1.heap.size) (by omega) (.int .i64 (byN sm sc sd sn sa sb act)) (.bool (byA sm sc sd sn sa sb act)) (.bool (byB sm sc sd sn sa sb act))) (g := w1.heap.size + 1) (by omega) (.int .i64 (bxN sm sc sd sn act)) (.bool (bxA sm sc sd sn act)) (.bool (bxB sm sc sd sn act))
            clear a3 b3 x3 y3 y4 B3
            have ok2 := ok_swap (ok_both sm sc sd sn sa sb act (ok_swap ok.out) c1 c4)
            have OK2 := Lib.hid ok2
            clear ok2
            go_wp2
            exact ⟨fits_next hlt OK2 a5 b5 B5, by simp [intOf]; omega⟩
        · skip
          go_wp2_with fail
          generalize hact : wrap64 (1 + wrap64 ((IntKind.u64.wrap z).tmod 4)) = act
          have c1 : 1 ≤ act := by rw [← hact]; exact (act_bd z).1
          have c4 : act ≤ 4 := by rw [← hact]; exact (act_bd z).2
          clear hact
          refine (both_ok sn sa sb sm sc sd act ra.out rb.out c1 c4 _).mono ?_
          rintro e w2 ⟨rfl, hb2⟩
          have z2 : w1.heap.size + 1 < w2.heap.size := Nat.lt_of_lt_of_le hb.lt hb2.size
          have a2 := ha.below hb2 ha.lt
          have b2 := hb.below hb2 hb.lt
          have B2 := hB'.trans (hb2.mono hB'.size)
          clear hb2 x0 x1 x2 y0 y1 y2 ha hb hB'
          have a3 := (a2.alloc (.cells #[.int .i64 (bxN sn sa sb sm act), .bool (bxA sn sa sb sm act), .bool (bxB sn sa sb sm act)] 23)).alloc (.cells #[.int .i64 (byN sn sa sb sm sc sd act), .bool (byA sn sa sb sm sc sd act), .bool (byB sn sa sb sm sc sd act)] 23)
          have b3 := (b2.alloc (.cells #[.int .i64 (bxN sn sa sb sm act), .bool (bxA sn sa sb sm act), .bool (bxB sn sa sb sm act)] 23)).alloc (.cells #[.int .i64 (byN sn sa sb sm sc sd act), .bool (byA sn sa sb sm sc sd act), .bool (byB sn sa sb sm sc sd act)] 23)
          have x3 := (Blk.new w2 23 #[.int .i64 (bxN sn sa sb sm act), .bool (bxA sn sa sb sm act), .bool (bxB sn sa sb sm act)]).alloc (.cells #[.int .i64 (byN sn sa sb sm sc sd act), .bool (byA sn sa sb sm sc sd act), .bool (byB sn sa sb sm sc sd act)] 23)
          have y3 := Blk.new (w2.alloc (.cells #[.int .i64 (bxN sn sa sb sm act), .bool (bxA sn sa sb sm act), .bool (bxB sn sa sb sm act)] 23)) 23 #[.int .i64 (byN sn sa sb sm sc sd act), .bool (byA sn sa sb sm sc sd act), .bool (byB sn sa sb sm sc sd act)]
          simp only [World.size_alloc] at y3
          have B3 := (B2.alloc B2.size (.cells #[.int .i64 (bxN sn sa sb sm act), .bool (bxA sn sa sb sm act), .bool (bxB sn sa sb sm act)] 23)).alloc (B2.alloc B2.size (.cells #[.int .i64 (bxN sn sa sb sm act), .bool (bxA sn sa sb sm act), .bool (bxB sn sa sb sm act)] 23)).size (.cells #[.int .i64 (byN sn sa sb sm sc sd act), .bool (byA sn sa sb sm sc sd act), .bool (byB sn sa sb sm sc sd act)] 23)
          have r0 := a3.cell 0
          have r1 := a3.cell 1
          have r2 := a3.cell 2
          have s0 := b3.cell 0
          have s1 := b3.cell 1
          have s2 := b3.cell 2
          have t0 := x3.cell 0
          have t1 := x3.cell 1
          have t2 := x3.cell 2
          have u0 := y3.cell 0
          have u1 := y3.cell 1
          have u2 := y3.cell 2
          simp only [List.getElem?_toArray, List.getElem?_cons_zero, List.getElem?_cons_succ] at r0 r1 r2 s0 s1 s2 t0 t1 t2 u0 u1 u2
          have rf0 := a3.frozen 0
          have rf1 := a3.frozen 1
          have rf2 := a3.frozen 2
          have sf0 := b3.frozen 0
          have sf1 := b3.frozen 1
          have sf2 := b3.frozen 2
          have y4 := y3.far3 (g' := w1.heap.size) (by omega) (.int .i64 (bxN sn sa sb sm act)) (.bool (bxA sn sa sb sm act)) (.bool (bxB sn sa sb sm act))
          have v0 := y4.cell 0
          have v1 := y4.cell 1
          have v2 := y4.cell 2
          simp only [List.getElem?_toArray, List.getElem?_cons_zero, List.getElem?_cons_succ] at v0 v1 v2
          have a5 := (a3.store3 (x' := .int .i64 (bxN sn sa sb sm act)) (y' := .bool (bxA sn sa sb sm act)) (z' := .bool (bxB sn sa sb sm act))).far3 (g' := w1.heap.size + 1) (by omega) (.int .i64 (byN sn sa sb sm sc sd act)) (.bool (byA sn sa sb sm sc sd act)) (.bool (byB sn sa sb sm sc sd act))
          have b5 := (b3.far3 (g' := w1.heap.size) (by omega) (.int .i64 (bxN sn sa sb sm act)) (.bool (bxA sn sa sb sm act)) (.bool (bxB sn sa sb sm act))).store3 (x' := .int .i64 (byN sn sa sb sm sc sd act)) (y' := .bool (byA sn sa sb sm sc sd act)) (z' := .bool (byB sn sa sb sm sc sd act))
          have B5 := below_set3 (below_set3 B3 (g := w1.heap.size) (by omega) (.int .i64 (bxN sn sa sb sm act)) (.bool (bxA sn sa sb sm act)) (.bool (bxB sn sa sb sm act))) (g := w1.heap.size + 1) (by omega) (.int .i64 (byN sn sa sb sm sc sd act)) (.bool (byA sn sa sb sm sc sd act)) (.bool (byB sn sa sb sm sc sd act))
          clear a3 b3 x3 y3 y4 B3
          have ok2 := ok_both sn sa sb sm sc sd act ok.out c1 c4
          have OK2 := Lib.hid ok2
          clear ok2
          go_wp2
          exact ⟨fits_next hlt OK2 a5 b5 B5, by simp [intOf]; omega⟩
      · obtain ⟨cn, dn, en, fn, gn, un, kn, ln, da, db, ea, fa, fb, ga, gb, ua, ub, ka, kb, la, lb, tl⟩ := tail_of sn sa sb sm sc sd hok
        clear hok
        obtain ⟨x0, x1, x2, _, _, _⟩ := ha.side
        obtain ⟨y0, y1, y2, _, _, _⟩ := hb.side
        have K0 : KB w [(w1.heap.size, 23, #[.int .i64 sn, .bool sa, .bool sb]), ((w1.heap.size + 1), 23, #[.int .i64 sm, .bool sc, .bool sd])] wr := kb_cons ha (kb_cons hb (kb_nil hB'))
        obtain ⟨HB3, HB4, HB1, HB2, u1, u2, u3, u4, u5, u6, u7, u8⟩ := tl
        have z1 := hb.lt
        go_wp2_with fail
        refine (HB3 _).mono ?_
        rintro e w2 ⟨rfl, hb2⟩
        have K2 := kb_below hb2 K0
        have z2 := hb2.size
        clear hb2 K0 x0 x1 x2 y0 y1 y2
        have b4 := Blk.new (w2.alloc (.cells #[.int .i64 cn, .bool false, .bool sb] 23)) 23 #[.int .i64 dn, .bool da, .bool db]
        simp only [World.size_alloc] at b4
        have Fa : Hid (∀ w' : World, KB w [(w1.heap.size, 23, #[.int .i64 sn, .bool sa, .bool sb]), ((w1.heap.size + 1), 23, #[.int .i64 sm, .bool sc, .bool sd]), (w2.heap.size, 23, #[.int .i64 cn, .bool false, .bool sb]), ((w2.heap.size + 1), 23, #[.int .i64 dn, .bool da, .bool db])] w' → w'.cell? ⟨w1.heap.size, 0, none⟩ = some (.int .i64 sn) ∧ w'.cell? ⟨w1.heap.size, 1, none⟩ = some (.bool sa) ∧ w'.cell? ⟨w1.heap.size, 2, none⟩ = some (.bool sb) ∧ w'.cell? ⟨w2.heap.size, 0, none⟩ = some (.int .i64 cn) ∧ w'.cell? ⟨w2.heap.size, 1, none⟩ = some (.bool false) ∧ w'.cell? ⟨w2.heap.size, 2, none⟩ = some (.bool sb) ∧ KB w [(w1.heap.size, 23, #[.int .i64 sn, .bool sa, .bool sb]), ((w1.heap.size + 1), 23, #[.int .i64 sm, .bool sc, .bool sd]), (w2.heap.size, 23, #[.int .i64 cn, .bool false, .bool sb]), ((w2.heap.size + 1), 23, #[.int .i64 dn, .bool da, .bool db])] w') := fun w' h => ⟨(h.1 _ (List.mem_cons_self ..)).cell 0, (h.1 _ (List.mem_cons_self ..)).cell 1, (h.1 _ (List.mem_cons_self ..)).cell 2, (h.1 _ (List.mem_cons_of_mem _ (List.mem_cons_of_mem _ (List.mem_cons_self ..)))).cell 0, (h.1 _ (List.mem_cons_of_mem _ (List.mem_cons_of_mem _ (List.mem_cons_self ..)))).cell 1, (h.1 _ (List.mem_cons_of_mem _ (List.mem_cons_of_mem _ (List.mem_cons_self ..)))).cell 2, h⟩
        have Ga : Hid (∀ W w' : World, Below W.heap.size W w' → (W.cell? ⟨w1.heap.size, 0, none⟩ = some (.int .i64 sn) ∧ W.cell? ⟨w1.heap.size, 1, none⟩ = some (.bool sa) ∧ W.cell? ⟨w1.heap.size, 2, none⟩ = some (.bool sb) ∧ W.cell? ⟨w2.heap.size, 0, none⟩ = some (.int .i64 cn) ∧ W.cell? ⟨w2.heap.size, 1, none⟩ = some (.bool false) ∧ W.cell? ⟨w2.heap.size, 2, none⟩ = some (.bool sb) ∧ KB w [(w1.heap.size, 23, #[.int .i64 sn, .bool sa, .bool sb]), ((w1.heap.size + 1), 23, #[.int .i64 sm, .bool sc, .bool sd]), (w2.heap.size, 23, #[.int .i64 cn, .bool false, .bool sb]), ((w2.heap.size + 1), 23, #[.int .i64 dn, .bool da, .bool db])] W) → KB w [(w1.heap.size, 23, #[.int .i64 sn, .bool sa, .bool sb]), ((w1.heap.size + 1), 23, #[.int .i64 sm, .bool sc, .bool sd]), (w2.heap.size, 23, #[.int .i64 cn, .bool false, .bool sb]), ((w2.heap.size + 1), 23, #[.int .i64 dn, .bool da, .bool db])] w') := fun W w' hb h => kb_below hb h.2.2.2.2.2.2
        have Ka : KB w [(w1.heap.size, 23, #[.int .i64 sn, .bool sa, .bool sb]), ((w1.heap.size + 1), 23, #[.int .i64 sm, .bool sc, .bool sd]), (w2.heap.size, 23, #[.int .i64 cn, .bool false, .bool sb]), ((w2.heap.size + 1), 23, #[.int .i64 dn, .bool da, .bool db])] ((w2.alloc (.cells #[.int .i64 cn, .bool false, .bool sb] 23)).alloc (.cells #[.int .i64 dn, .bool da, .bool db] 23)) := kb_cons (((K2.1 _ (List.mem_cons_self ..)).alloc _).alloc _) (kb_cons (((K2.1 _ (List.mem_cons_of_mem _ (List.mem_cons_self ..))).alloc _).alloc _) (kb_cons ((Blk.new _ _ _).alloc _) (kb_cons b4 (kb_nil ((K2.2.alloc K2.2.size _).alloc (K2.2.alloc K2.2.size _).size _)))))
        clear b4 K2
        go_wp2_with fail
        go_region_held3 (fun w' => w'.cell? ⟨w1.heap.size, 0, none⟩ = some (.int .i64 sn) ∧ w'.cell? ⟨w1.heap.size, 1, none⟩ = some (.bool sa) ∧ w'.cell? ⟨w1.heap.size, 2, none⟩ = some (.bool sb) ∧ w'.cell? ⟨w2.heap.size, 0, none⟩ = some (.int .i64 cn) ∧ w'.cell? ⟨w2.heap.size, 1, none⟩ = some (.bool false) ∧ w'.cell? ⟨w2.heap.size, 2, none⟩ = some (.bool sb) ∧ KB w [(w1.heap.size, 23, #[.int .i64 sn, .bool sa, .bool sb]), ((w1.heap.size + 1), 23, #[.int .i64 sm, .bool sc, .bool sd]), (w2.heap.size, 23, #[.int .i64 cn, .bool false, .bool sb]), ((w2.heap.size + 1), 23, #[.int .i64 dn, .bool da, .bool db])] w') ((refine Fa.out _ ?_; first | (with_reducible assumption) | (with_reducible refine kb_dr ?_; with_reducible assumption)))
          (first | (go_at_call_of 16 (Value.agg #[Value.int IntKind.i64 cn, Value.bool false, Value.bool sb]); refine (sees_at cn false sb false u1 _).mono ?_; rintro e w3 ⟨rfl, hb3⟩; have K3 := Ga.out _ _ hb3 (by assumption); clear hb3) | (go_at_call_of 17 (Value.agg #[Value.int IntKind.i64 cn, Value.bool false, Value.bool sb]); refine (seen_at cn false sb (seenB sn) u2 _).mono ?_; rintro e w4 ⟨rfl, hb4⟩; have K4 := Ga.out _ _ hb4 (by assumption); clear hb4) | (go_at_call_of 17 (Value.agg #[Value.int IntKind.i64 sn, Value.bool sa, Value.bool sb]); refine (seen_any sn sa sb _).mono ?_; rintro e w5 ⟨rfl, hb5⟩; have K5 := Ga.out _ _ hb5 (by assumption); clear hb5))
        have x0 := (K5.1 _ (List.mem_cons_self ..)).cell 0
        have x1 := (K5.1 _ (List.mem_cons_self ..)).cell 1
        have x2 := (K5.1 _ (List.mem_cons_self ..)).cell 2
        have y0 := (K5.1 _ (List.mem_cons_of_mem _ (List.mem_cons_self ..))).cell 0
        have y1 := (K5.1 _ (List.mem_cons_of_mem _ (List.mem_cons_self ..))).cell 1
        have y2 := (K5.1 _ (List.mem_cons_of_mem _ (List.mem_cons_self ..))).cell 2
        simp only [List.getElem?_toArray, List.getElem?_cons_zero, List.getElem?_cons_succ] at x0 x1 x2 y0 y1 y2
        clear Ka Fa Ga K3 K4
        go_wp2_with fail
        refine (HB4 _).mono ?_
        rintro e w6 ⟨rfl, hb6⟩
        have K6 := kb_below hb6 K5
        clear hb6 K5 x0 x1 x2 y0 y1 y2
        have x0 := (K6.1 _ (List.mem_cons_of_mem _ (List.mem_cons_of_mem _ (List.mem_cons_self ..)))).cell 0
        have x1 := (K6.1 _ (List.mem_cons_of_mem _ (List.mem_cons_of_mem _ (List.mem_cons_self ..)))).cell 1
        have x2 := (K6.1 _ (List.mem_cons_of_mem _ (List.mem_cons_of_mem _ (List.mem_cons_self ..)))).cell 2
        have y0 := (K6.1 _ (List.mem_cons_of_mem _ (List.mem_cons_of_mem _ (List.mem_cons_of_mem _ (List.mem_cons_self ..))))).cell 0
        have y1 := (K6.1 _ (List.mem_cons_of_mem _ (List.mem_cons_of_mem _ (List.mem_cons_of_mem _ (List.mem_cons_self ..))))).cell 1
        have y2 := (K6.1 _ (List.mem_cons_of_mem _ (List.mem_cons_of_mem _ (List.mem_cons_of_mem _ (List.mem_cons_self ..))))).cell 2
        simp only [List.getElem?_toArray, List.getElem?_cons_zero, List.getElem?_cons_succ] at x0 x1 x2 y0 y1 y2
        have xf0 := (K6.1 _ (List.mem_cons_of_mem _ (List.mem_cons_of_mem _ (List.mem_cons_self ..)))).frozen 0
        have xf1 := (K6.1 _ (List.mem_cons_of_mem _ (List.mem_cons_of_mem _ (List.mem_cons_self ..)))).frozen 1
        have xf2 := (K6.1 _ (List.mem_cons_of_mem _ (List.mem_cons_of_mem _ (List.mem_cons_self ..)))).frozen 2
        have yf0 := (K6.1 _ (List.mem_cons_of_mem _ (List.mem_cons_of_mem _ (List.mem_cons_of_mem _ (List.mem_cons_self ..))))).frozen 0
        have yf1 := (K6.1 _ (List.mem_cons_of_mem _ (List.mem_cons_of_mem _ (List.mem_cons_of_mem _ (List.mem_cons_self ..))))).frozen 1
        have yf2 := (K6.1 _ (List.mem_cons_of_mem _ (List.mem_cons_of_mem _ (List.mem_cons_of_mem _ (List.mem_cons_self ..))))).frozen 2
        have Fb : Hid (∀ w' : World, KB w [(w1.heap.size, 23, #[.int .i64 sn, .bool sa, .bool sb]), ((w1.heap.size + 1), 23, #[.int .i64 sm, .bool sc, .bool sd]), (w2.heap.size, 23, #[.int .i64 en, .bool ea, .bool false]), ((w2.heap.size + 1), 23, #[.int .i64 fn, .bool fa, .bool fb])] w' → w'.cell? ⟨w1.heap.size, 0, none⟩ = some (.int .i64 sn) ∧ w'.cell? ⟨w1.heap.size, 1, none⟩ = some (.bool sa) ∧ w'.cell? ⟨w1.heap.size, 2, none⟩ = some (.bool sb) ∧ w'.cell? ⟨w2.heap.size, 0, none⟩ = some (.int .i64 en) ∧ w'.cell? ⟨w2.heap.size, 1, none⟩ = some (.bool ea) ∧ w'.cell? ⟨w2.heap.size, 2, none⟩ = some (.bool false) ∧ w'.cell? ⟨(w2.heap.size + 1), 0, none⟩ = some (.int .i64 fn) ∧ w'.cell? ⟨(w2.heap.size + 1), 1, none⟩ = some (.bool fa) ∧ w'.cell? ⟨(w2.heap.size + 1), 2, none⟩ = some (.bool fb) ∧ KB w [(w1.heap.size, 23, #[.int .i64 sn, .bool sa, .bool sb]), ((w1.heap.size + 1), 23, #[.int .i64 sm, .bool sc, .bool sd]), (w2.heap.size, 23, #[.int .i64 en, .bool ea, .bool false]), ((w2.heap.size + 1), 23, #[.int .i64 fn, .bool fa, .bool fb])] w') := fun w' h => ⟨(h.1 _ (List.mem_cons_self ..)).cell 0, (h.1 _ (List.mem_cons_self ..)).cell 1, (h.1 _ (List.mem_cons_self ..)).cell 2, (h.1 _ (List.mem_cons_of_mem _ (List.mem_cons_of_mem _ (List.mem_cons_self ..)))).cell 0, (h.1 _ (List.mem_cons_of_mem _ (List.mem_cons_of_mem _ (List.mem_cons_self ..)))).cell 1, (h.1 _ (List.mem_cons_of_mem _ (List.mem_cons_of_mem _ (List.mem_cons_self ..)))).cell 2, (h.1 _ (List.mem_cons_of_mem _ (List.mem_cons_of_mem _ (List.mem_cons_of_mem _ (List.mem_cons_self ..))))).cell 0, (h.1 _ (List.mem_cons_of_mem _ (List.mem_cons_of_mem _ (List.mem_cons_of_mem _ (List.mem_cons_self ..))))).cell 1, (h.1 _ (List.mem_cons_of_mem _ (List.mem_cons_of_mem _ (List.mem_cons_of_mem _ (List.mem_cons_self ..))))).cell 2, h⟩
        have Gb : Hid (∀ W w' : World, Below W.heap.size W w' → (W.cell? ⟨w1.heap.size, 0, none⟩ = some (.int .i64 sn) ∧ W.cell? ⟨w1.heap.size, 1, none⟩ = some (.bool sa) ∧ W.cell? ⟨w1.heap.size, 2, none⟩ = some (.bool sb) ∧ W.cell? ⟨w2.heap.size, 0, none⟩ = some (.int .i64 en) ∧ W.cell? ⟨w2.heap.size, 1, none⟩ = some (.bool ea) ∧ W.cell? ⟨w2.heap.size, 2, none⟩ = some (.bool false) ∧ W.cell? ⟨(w2.heap.size + 1), 0, none⟩ = some (.int .i64 fn) ∧ W.cell? ⟨(w2.heap.size + 1), 1, none⟩ = some (.bool fa) ∧ W.cell? ⟨(w2.heap.size + 1), 2, none⟩ = some (.bool fb) ∧ KB w [(w1.heap.size, 23, #[.int .i64 sn, .bool sa, .bool sb]), ((w1.heap.size + 1), 23, #[.int .i64 sm, .bool sc, .bool sd]), (w2.heap.size, 23, #[.int .i64 en, .bool ea, .bool false]), ((w2.heap.size + 1), 23, #[.int .i64 fn, .bool fa, .bool fb])] W) → KB w [(w1.heap.size, 23, #[.int .i64 sn, .bool sa, .bool sb]), ((w1.heap.size + 1), 23, #[.int .i64 sm, .bool sc, .bool sd]), (w2.heap.size, 23, #[.int .i64 en, .bool ea, .bool false]), ((w2.heap.size + 1), 23, #[.int .i64 fn, .bool fa, .bool fb])] w') := fun W w' hb h => kb_below hb h.2.2.2.2.2.2.2.2.2
        have Kb : KB w [(w1.heap.size, 23, #[.int .i64 sn, .bool sa, .bool sb]), ((w1.heap.size + 1), 23, #[.int .i64 sm, .bool sc, .bool sd]), (w2.heap.size, 23, #[.int .i64 en, .bool ea, .bool false]), ((w2.heap.size + 1), 23, #[.int .i64 fn, .bool fa, .bool fb])] ((((((w6.setCell ⟨w2.heap.size, 0, none⟩ (.int .i64 en)).setCell ⟨w2.heap.size, 1, none⟩ (.bool ea)).setCell ⟨w2.heap.size, 2, none⟩ (.bool false)).setCell ⟨(w2.heap.size + 1), 0, none⟩ (.int .i64 fn)).setCell ⟨(w2.heap.size + 1), 1, none⟩ (.bool fa)).setCell ⟨(w2.heap.size + 1), 2, none⟩ (.bool fb)) := kb_cons (((K6.1 _ (List.mem_cons_self ..)).far3 (g' := w2.heap.size) (by omega) (.int .i64 en) (.bool ea) (.bool false)).far3 (g' := (w2.heap.size + 1)) (by omega) (.int .i64 fn) (.bool fa) (.bool fb)) (kb_cons (((K6.1 _ (List.mem_cons_of_mem _ (List.mem_cons_self ..))).far3 (g' := w2.heap.size) (by omega) (.int .i64 en) (.bool ea) (.bool false)).far3 (g' := (w2.heap.size + 1)) (by omega) (.int .i64 fn) (.bool fa) (.bool fb)) (kb_cons (((K6.1 _ (List.mem_cons_of_mem _ (List.mem_cons_of_mem _ (List.mem_cons_self ..)))).store3 (x' := .int .i64 en) (y' := .bool ea) (z' := .bool false)).far3 (g' := (w2.heap.size + 1)) (by omega) (.int .i64 fn) (.bool fa) (.bool fb)) (kb_cons (((K6.1 _ (List.mem_cons_of_mem _ (List.mem_cons_of_mem _ (List.mem_cons_of_mem _ (List.mem_cons_self ..))))).far3 (g' := w2.heap.size) (by omega) (.int .i64 en) (.bool ea) (.bool false)).store3 (x' := .int .i64 fn) (y' := .bool fa) (z' := .bool fb)) (kb_nil (below_set3 (below_set3 K6.2 (g := w2.heap.size) (by omega) (.int .i64 en) (.bool ea) (.bool false)) (g := (w2.heap.size + 1)) (by omega) (.int .i64 fn) (.bool fa) (.bool fb))))))
        clear K6
        go_wp2_with fail
        clear x0 x1 x2 y0 y1 y2 xf0 xf1 xf2 yf0 yf1 yf2
        go_region_held3 (fun w' => w'.cell? ⟨w1.heap.size, 0, none⟩ = some (.int .i64 sn) ∧ w'.cell? ⟨w1.heap.size, 1, none⟩ = some (.bool sa) ∧ w'.cell? ⟨w1.heap.size, 2, none⟩ = some (.bool sb) ∧ w'.cell? ⟨w2.heap.size, 0, none⟩ = some (.int .i64 en) ∧ w'.cell? ⟨w2.heap.size, 1, none⟩ = some (.bool ea) ∧ w'.cell? ⟨w2.heap.size, 2, none⟩ = some (.bool false) ∧ w'.cell? ⟨(w2.heap.size + 1), 0, none⟩ = some (.int .i64 fn) ∧ w'.cell? ⟨(w2.heap.size + 1), 1, none⟩ = some (.bool fa) ∧ w'.cell? ⟨(w2.heap.size + 1), 2, none⟩ = some (.bool fb) ∧ KB w [(w1.heap.size, 23, #[.int .i64 sn, .bool sa, .bool sb]), ((w1.heap.size + 1), 23, #[.int .i64 sm, .bool sc, .bool sd]), (w2.heap.size, 23, #[.int .i64 en, .bool ea, .bool false]), ((w2.heap.size + 1), 23, #[.int .i64 fn, .bool fa, .bool fb])] w') ((refine Fb.out _ ?_; first | (with_reducible assumption) | (with_reducible refine kb_dr ?_; with_reducible assumption)))
          (first | (go_at_call_of 17 (Value.agg #[Value.int IntKind.i64 en, Value.bool ea, Value.bool false]); refine (seen_at en ea false false u3 _).mono ?_; rintro e w7 ⟨rfl, hb7⟩; have K7 := Gb.out _ _ hb7 (by assumption); clear hb7) | (go_at_call_of 16 (Value.agg #[Value.int IntKind.i64 en, Value.bool ea, Value.bool false]); refine (sees_at en ea false (seesB sn) u4 _).mono ?_; rintro e w8 ⟨rfl, hb8⟩; have K8 := Gb.out _ _ hb8 (by assumption); clear hb8) | (go_at_call_of 16 (Value.agg #[Value.int IntKind.i64 sn, Value.bool sa, Value.bool sb]); refine (sees_any sn sa sb _).mono ?_; rintro e w9 ⟨rfl, hb9⟩; have K9 := Gb.out _ _ hb9 (by assumption); clear hb9) | (go_at_call_of 16 (Value.agg #[Value.int IntKind.i64 fn, Value.bool fa, Value.bool fb]); refine (sees_at fn fa fb false u5 _).mono ?_; rintro e w10 ⟨rfl, hb10⟩; have K10 := Gb.out _ _ hb10 (by assumption); clear hb10))
        have x0 := (K10.1 _ (List.mem_cons_self ..)).cell 0
        have x1 := (K10.1 _ (List.mem_cons_self ..)).cell 1
        have x2 := (K10.1 _ (List.mem_cons_self ..)).cell 2
        have y0 := (K10.1 _ (List.mem_cons_of_mem _ (List.mem_cons_self ..))).cell 0
        have y1 := (K10.1 _ (List.mem_cons_of_mem _ (List.mem_cons_self ..))).cell 1
        have y2 := (K10.1 _ (List.mem_cons_of_mem _ (List.mem_cons_self ..))).cell 2
        simp only [List.getElem?_toArray, List.getElem?_cons_zero, List.getElem?_cons_succ] at x0 x1 x2 y0 y1 y2
        clear Kb Fb Gb K7 K8 K9
        go_wp2_with fail
        refine (HB1 _).mono ?_
        rintro e w11 ⟨rfl, hb11⟩
        have K11 := kb_below hb11 K10
        clear hb11 K10 x0 x1 x2 y0 y1 y2
        have x0 := (K11.1 _ (List.mem_cons_of_mem _ (List.mem_cons_of_mem _ (List.mem_cons_self ..)))).cell 0
        have x1 := (K11.1 _ (List.mem_cons_of_mem _ (List.mem_cons_of_mem _ (List.mem_cons_self ..)))).cell 1
        have x2 := (K11.1 _ (List.mem_cons_of_mem _ (List.mem_cons_of_mem _ (List.mem_cons_self ..)))).cell 2
        have y0 := (K11.1 _ (List.mem_cons_of_mem _ (List.mem_cons_of_mem _ (List.mem_cons_of_mem _ (List.mem_cons_self ..))))).cell 0
        have y1 := (K11.1 _ (List.mem_cons_of_mem _ (List.mem_cons_of_mem _ (List.mem_cons_of_mem _ (List.mem_cons_self ..))))).cell 1
        have y2 := (K11.1 _ (List.mem_cons_of_mem _ (List.mem_cons_of_mem _ (List.mem_cons_of_mem _ (List.mem_cons_self ..))))).cell 2
        simp only [List.getElem?_toArray, List.getElem?_cons_zero, List.getElem?_cons_succ] at x0 x1 x2 y0 y1 y2
        have xf0 := (K11.1 _ (List.mem_cons_of_mem _ (List.mem_cons_of_mem _ (List.mem_cons_self ..)))).frozen 0
        have xf1 := (K11.1 _ (List.mem_cons_of_mem _ (List.mem_cons_of_mem _ (List.mem_cons_self ..)))).frozen 1
        have xf2 := (K11.1 _ (List.mem_cons_of_mem _ (List.mem_cons_of_mem _ (List.mem_cons_self ..)))).frozen 2
        have yf0 := (K11.1 _ (List.mem_cons_of_mem _ (List.mem_cons_of_mem _ (List.mem_cons_of_mem _ (List.mem_cons_self ..))))).frozen 0
        have yf1 := (K11.1 _ (List.mem_cons_of_mem _ (List.mem_cons_of_mem _ (List.mem_cons_of_mem _ (List.mem_cons_self ..))))).frozen 1
        have yf2 := (K11.1 _ (List.mem_cons_of_mem _ (List.mem_cons_of_mem _ (List.mem_cons_of_mem _ (List.mem_cons_self ..))))).frozen 2
        have K12 : KB w [(w1.heap.size, 23, #[.int .i64 sn, .bool sa, .bool sb]), ((w1.heap.size + 1), 23, #[.int .i64 sm, .bool sc, .bool sd]), (w2.heap.size, 23, #[.int .i64 gn, .bool ga, .bool gb]), ((w2.heap.size + 1), 23, #[.int .i64 un, .bool ua, .bool ub])] ((((((w11.setCell ⟨w2.heap.size, 0, none⟩ (.int .i64 gn)).setCell ⟨w2.heap.size, 1, none⟩ (.bool ga)).setCell ⟨w2.heap.size, 2, none⟩ (.bool gb)).setCell ⟨(w2.heap.size + 1), 0, none⟩ (.int .i64 un)).setCell ⟨(w2.heap.size + 1), 1, none⟩ (.bool ua)).setCell ⟨(w2.heap.size + 1), 2, none⟩ (.bool ub)) := kb_cons (((K11.1 _ (List.mem_cons_self ..)).far3 (g' := w2.heap.size) (by omega) (.int .i64 gn) (.bool ga) (.bool gb)).far3 (g' := (w2.heap.size + 1)) (by omega) (.int .i64 un) (.bool ua) (.bool ub)) (kb_cons (((K11.1 _ (List.mem_cons_of_mem _ (List.mem_cons_self ..))).far3 (g' := w2.heap.size) (by omega) (.int .i64 gn) (.bool ga) (.bool gb)).far3 (g' := (w2.heap.size + 1)) (by omega) (.int .i64 un) (.bool ua) (.bool ub)) (kb_cons (((K11.1 _ (List.mem_cons_of_mem _ (List.mem_cons_of_mem _ (List.mem_cons_self ..)))).store3 (x' := .int .i64 gn) (y' := .bool ga) (z' := .bool gb)).far3 (g' := (w2.heap.size + 1)) (by omega) (.int .i64 un) (.bool ua) (.bool ub)) (kb_cons (((K11.1 _ (List.mem_cons_of_mem _ (List.mem_cons_of_mem _ (List.mem_cons_of_mem _ (List.mem_cons_self ..))))).far3 (g' := w2.heap.size) (by omega) (.int .i64 gn) (.bool ga) (.bool gb)).store3 (x' := .int .i64 un) (y' := .bool ua) (z' := .bool ub)) (kb_nil (below_set3 (below_set3 K11.2 (g := w2.heap.size) (by omega) (.int .i64 gn) (.bool ga) (.bool gb)) (g := (w2.heap.size + 1)) (by omega) (.int .i64 un) (.bool ua) (.bool ub))))))
        clear K11
        have p0 := (K12.1 _ (List.mem_cons_of_mem _ (List.mem_cons_of_mem _ (List.mem_cons_self ..)))).cell 0
        have p1 := (K12.1 _ (List.mem_cons_of_mem _ (List.mem_cons_of_mem _ (List.mem_cons_self ..)))).cell 1
        have p2 := (K12.1 _ (List.mem_cons_of_mem _ (List.mem_cons_of_mem _ (List.mem_cons_self ..)))).cell 2
        have q0 := (K12.1 _ (List.mem_cons_of_mem _ (List.mem_cons_of_mem _ (List.mem_cons_of_mem _ (List.mem_cons_self ..))))).cell 0
        have q1 := (K12.1 _ (List.mem_cons_of_mem _ (List.mem_cons_of_mem _ (List.mem_cons_of_mem _ (List.mem_cons_self ..))))).cell 1
        have q2 := (K12.1 _ (List.mem_cons_of_mem _ (List.mem_cons_of_mem _ (List.mem_cons_of_mem _ (List.mem_cons_self ..))))).cell 2
        simp only [List.getElem?_toArray, List.getElem?_cons_zero, List.getElem?_cons_succ] at p0 p1 p2 q0 q1 q2
        go_wp2_with fail
        clear x0 x1 x2 y0 y1 y2 xf0 xf1 xf2 yf0 yf1 yf2 p0 p1 p2 q0 q1 q2
        refine (HB2 _).mono ?_
        rintro e w13 ⟨rfl, hb13⟩
        have K13 := kb_below hb13 K12
        clear hb13 K12
        have x0 := (K13.1 _ (List.mem_cons_of_mem _ (List.mem_cons_of_mem _ (List.mem_cons_self ..)))).cell 0
        have x1 := (K13.1 _ (List.mem_cons_of_mem _ (List.mem_cons_of_mem _ (List.mem_cons_self ..)))).cell 1
        have x2 := (K13.1 _ (List.mem_cons_of_mem _ (List.mem_cons_of_mem _ (List.mem_cons_self ..)))).cell 2
        have y0 := (K13.1 _ (List.mem_cons_of_mem _ (List.mem_cons_of_mem _ (List.mem_cons_of_mem _ (List.mem_cons_self ..))))).cell 0
        have y1 := (K13.1 _ (List.mem_cons_of_mem _ (List.mem_cons_of_mem _ (List.mem_cons_of_mem _ (List.mem_cons_self ..))))).cell 1
        have y2 := (K13.1 _ (List.mem_cons_of_mem _ (List.mem_cons_of_mem _ (List.mem_cons_of_mem _ (List.mem_cons_self ..))))).cell 2
        simp only [List.getElem?_toArray, List.getElem?_cons_zero, List.getElem?_cons_succ] at x0 x1 x2 y0 y1 y2
        have xf0 := (K13.1 _ (List.mem_cons_of_mem _ (List.mem_cons_of_mem _ (List.mem_cons_self ..)))).frozen 0
        have xf1 := (K13.1 _ (List.mem_cons_of_mem _ (List.mem_cons_of_mem _ (List.mem_cons_self ..)))).frozen 1
        have xf2 := (K13.1 _ (List.mem_cons_of_mem _ (List.mem_cons_of_mem _ (List.mem_cons_self ..)))).frozen 2
        have yf0 := (K13.1 _ (List.mem_cons_of_mem _ (List.mem_cons_of_mem _ (List.mem_cons_of_mem _ (List.mem_cons_self ..))))).frozen 0
        have yf1 := (K13.1 _ (List.mem_cons_of_mem _ (List.mem_cons_of_mem _ (List.mem_cons_of_mem _ (List.mem_cons_self ..))))).frozen 1
        have yf2 := (K13.1 _ (List.mem_cons_of_mem _ (List.mem_cons_of_mem _ (List.mem_cons_of_mem _ (List.mem_cons_self ..))))).frozen 2
        have Fc : Hid (∀ w' : World, KB w [(w1.heap.size, 23, #[.int .i64 sn, .bool sa, .bool sb]), ((w1.heap.size + 1), 23, #[.int .i64 sm, .bool sc, .bool sd]), (w2.heap.size, 23, #[.int .i64 ln, .bool la, .bool lb]), ((w2.heap.size + 1), 23, #[.int .i64 kn, .bool ka, .bool kb])] w' → w'.cell? ⟨w1.heap.size, 0, none⟩ = some (.int .i64 sn) ∧ w'.cell? ⟨w1.heap.size, 1, none⟩ = some (.bool sa) ∧ w'.cell? ⟨w1.heap.size, 2, none⟩ = some (.bool sb) ∧ w'.cell? ⟨w2.heap.size, 0, none⟩ = some (.int .i64 ln) ∧ w'.cell? ⟨w2.heap.size, 1, none⟩ = some (.bool la) ∧ w'.cell? ⟨w2.heap.size, 2, none⟩ = some (.bool lb) ∧ w'.cell? ⟨(w2.heap.size + 1), 0, none⟩ = some (.int .i64 kn) ∧ w'.cell? ⟨(w2.heap.size + 1), 1, none⟩ = some (.bool ka) ∧ w'.cell? ⟨(w2.heap.size + 1), 2, none⟩ = some (.bool kb) ∧ KB w [(w1.heap.size, 23, #[.int .i64 sn, .bool sa, .bool sb]), ((w1.heap.size + 1), 23, #[.int .i64 sm, .bool sc, .bool sd]), (w2.heap.size, 23, #[.int .i64 ln, .bool la, .bool lb]), ((w2.heap.size + 1), 23, #[.int .i64 kn, .bool ka, .bool kb])] w') := fun w' h => ⟨(h.1 _ (List.mem_cons_self ..)).cell 0, (h.1 _ (List.mem_cons_self ..)).cell 1, (h.1 _ (List.mem_cons_self ..)).cell 2, (h.1 _ (List.mem_cons_of_mem _ (List.mem_cons_of_mem _ (List.mem_cons_self ..)))).cell 0, (h.1 _ (List.mem_cons_of_mem _ (List.mem_cons_of_mem _ (List.mem_cons_self ..)))).cell 1, (h.1 _ (List.mem_cons_of_mem _ (List.mem_cons_of_mem _ (List.mem_cons_self ..)))).cell 2, (h.1 _ (List.mem_cons_of_mem _ (List.mem_cons_of_mem _ (List.mem_cons_of_mem _ (List.mem_cons_self ..))))).cell 0, (h.1 _ (List.mem_cons_of_mem _ (List.mem_cons_of_mem _ (List.mem_cons_of_mem _ (List.mem_cons_self ..))))).cell 1, (h.1 _ (List.mem_cons_of_mem _ (List.mem_cons_of_mem _ (List.mem_cons_of_mem _ (List.mem_cons_self ..))))).cell 2, h⟩
        have Gc : Hid (∀ W w' : World, Below W.heap.size W w' → (W.cell? ⟨w1.heap.size, 0, none⟩ = some (.int .i64 sn) ∧ W.cell? ⟨w1.heap.size, 1, none⟩ = some (.bool sa) ∧ W.cell? ⟨w1.heap.size, 2, none⟩ = some (.bool sb) ∧ W.cell? ⟨w2.heap.size, 0, none⟩ = some (.int .i64 ln) ∧ W.cell? ⟨w2.heap.size, 1, none⟩ = some (.bool la) ∧ W.cell? ⟨w2.heap.size, 2, none⟩ = some (.bool lb) ∧ W.cell? ⟨(w2.heap.size + 1), 0, none⟩ = some (.int .i64 kn) ∧ W.cell? ⟨(w2.heap.size + 1), 1, none⟩ = some (.bool ka) ∧ W.cell? ⟨(w2.heap.size + 1), 2, none⟩ = some (.bool kb) ∧ KB w [(w1.heap.size, 23, #[.int .i64 sn, .bool sa, .bool sb]), ((w1.heap.size + 1), 23, #[.int .i64 sm, .bool sc, .bool sd]), (w2.heap.size, 23, #[.int .i64 ln, .bool la, .bool lb]), ((w2.heap.size + 1), 23, #[.int .i64 kn, .bool ka, .bool kb])] W) → KB w [(w1.heap.size, 23, #[.int .i64 sn, .bool sa, .bool sb]), ((w1.heap.size + 1), 23, #[.int .i64 sm, .bool sc, .bool sd]), (w2.heap.size, 23, #[.int .i64 ln, .bool la, .bool lb]), ((w2.heap.size + 1), 23, #[.int .i64 kn, .bool ka, .bool kb])] w') := fun W w' hb h => kb_below hb h.2.2.2.2.2.2.2.2.2
        have Kc : KB w [(w1.heap.size, 23, #[.int .i64 sn, .bool sa, .bool sb]), ((w1.heap.size + 1), 23, #[.int .i64 sm, .bool sc, .bool sd]), (w2.heap.size, 23, #[.int .i64 ln, .bool la, .bool lb]), ((w2.heap.size + 1), 23, #[.int .i64 kn, .bool ka, .bool kb])] ((((((w13.setCell ⟨(w2.heap.size + 1), 0, none⟩ (.int .i64 kn)).setCell ⟨(w2.heap.size + 1), 1, none⟩ (.bool ka)).setCell ⟨(w2.heap.size + 1), 2, none⟩ (.bool kb)).setCell ⟨w2.heap.size, 0, none⟩ (.int .i64 ln)).setCell ⟨w2.heap.size, 1, none⟩ (.bool la)).setCell ⟨w2.heap.size, 2, none⟩ (.bool lb)) := kb_cons (((K13.1 _ (List.mem_cons_self ..)).far3 (g' := (w2.heap.size + 1)) (by omega) (.int .i64 kn) (.bool ka) (.bool kb)).far3 (g' := w2.heap.size) (by omega) (.int .i64 ln) (.bool la) (.bool lb)) (kb_cons (((K13.1 _ (List.mem_cons_of_mem _ (List.mem_cons_self ..))).far3 (g' := (w2.heap.size + 1)) (by omega) (.int .i64 kn) (.bool ka) (.bool kb)).far3 (g' := w2.heap.size) (by omega) (.int .i64 ln) (.bool la) (.bool lb)) (kb_cons (((K13.1 _ (List.mem_cons_of_mem _ (List.mem_cons_of_mem _ (List.mem_cons_self ..)))).far3 (g' := (w2.heap.size + 1)) (by omega) (.int .i64 kn) (.bool ka) (.bool kb)).store3 (x' := .int .i64 ln) (y' := .bool la) (z' := .bool lb)) (kb_cons (((K13.1 _ (List.mem_cons_of_mem _ (List.mem_cons_of_mem _ (List.mem_cons_of_mem _ (List.mem_cons_self ..))))).store3 (x' := .int .i64 kn) (y' := .bool ka) (z' := .bool kb)).far3 (g' := w2.heap.size) (by omega) (.int .i64 ln) (.bool la) (.bool lb)) (kb_nil (below_set3 (below_set3 K13.2 (g := (w2.heap.size + 1)) (by omega) (.int .i64 kn) (.bool ka) (.bool kb)) (g := w2.heap.size) (by omega) (.int .i64 ln) (.bool la) (.bool lb))))))
        clear K13
        go_wp2_with fail
        clear x0 x1 x2 y0 y1 y2 xf0 xf1 xf2 yf0 yf1 yf2
        go_region_held3 (fun w' => w'.cell? ⟨w1.heap.size, 0, none⟩ = some (.int .i64 sn) ∧ w'.cell? ⟨w1.heap.size, 1, none⟩ = some (.bool sa) ∧ w'.cell? ⟨w1.heap.size, 2, none⟩ = some (.bool sb) ∧ w'.cell? ⟨w2.heap.size, 0, none⟩ = some (.int .i64 ln) ∧ w'.cell? ⟨w2.heap.size, 1, none⟩ = some (.bool la) ∧ w'.cell? ⟨w2.heap.size, 2, none⟩ = some (.bool lb) ∧ w'.cell? ⟨(w2.heap.size + 1), 0, none⟩ = some (.int .i64 kn) ∧ w'.cell? ⟨(w2.heap.size + 1), 1, none⟩ = some (.bool ka) ∧ w'.cell? ⟨(w2.heap.size + 1), 2, none⟩ = some (.bool kb) ∧ KB w [(w1.heap.size, 23, #[.int .i64 sn, .bool sa, .bool sb]), ((w1.heap.size + 1), 23, #[.int .i64 sm, .bool sc, .bool sd]), (w2.heap.size, 23, #[.int .i64 ln, .bool la, .bool lb]), ((w2.heap.size + 1), 23, #[.int .i64 kn, .bool ka, .bool kb])] w') ((refine Fc.out _ ?_; first | (with_reducible assumption) | (with_reducible refine kb_dr ?_; with_reducible assumption)))
          (first | (go_at_call_of 16 (Value.agg #[Value.int IntKind.i64 ln, Value.bool la, Value.bool lb]); refine (sees_at ln la lb true u6 _).mono ?_; rintro e w14 ⟨rfl, hb14⟩; have K14 := Gc.out _ _ hb14 (by assumption); clear hb14) | (go_at_call_of 17 (Value.agg #[Value.int IntKind.i64 kn, Value.bool ka, Value.bool kb]); refine (seen_at kn ka kb true u7 _).mono ?_; rintro e w15 ⟨rfl, hb15⟩; have K15 := Gc.out _ _ hb15 (by assumption); clear hb15) | (go_at_call_of 17 (Value.agg #[Value.int IntKind.i64 ln, Value.bool la, Value.bool lb]); refine (seen_at ln la lb (seenB sn) u8 _).mono ?_; rintro e w16 ⟨rfl, hb16⟩; have K16 := Gc.out _ _ hb16 (by assumption); clear hb16) | (go_at_call_of 17 (Value.agg #[Value.int IntKind.i64 sn, Value.bool sa, Value.bool sb]); refine (seen_any sn sa sb _).mono ?_; rintro e w17 ⟨rfl, hb17⟩; have K17 := Gc.out _ _ hb17 (by assumption); clear hb17))
        go_wp2
        go_ret
        exact ⟨rfl, K17.2⟩
    · obtain ⟨cn, dn, en, fn, gn, un, kn, ln, da, db, ea, fa, fb, ga, gb, ua, ub, ka, kb, la, lb, tl⟩ := tail_of sn sa sb sm sc sd hok
      clear hok
      obtain ⟨x0, x1, x2, _, _, _⟩ := ha.side
      obtain ⟨y0, y1, y2, _, _, _⟩ := hb.side
      have K0 : KB w [(w1.heap.size, 23, #[.int .i64 sn, .bool sa, .bool sb]), ((w1.heap.size + 1), 23, #[.int .i64 sm, .bool sc, .bool sd])] wr := kb_cons ha (kb_cons hb (kb_nil hB'))
      obtain ⟨HB3, HB4, HB1, HB2, u1, u2, u3, u4, u5, u6, u7, u8⟩ := tl
      have z1 := hb.lt
      go_wp2_with fail
      refine (HB3 _).mono ?_
      rintro e w2 ⟨rfl, hb2⟩
      have K2 := kb_below hb2 K0
      have z2 := hb2.size
      clear hb2 K0 x0 x1 x2 y0 y1 y2
      have b4 := Blk.new (w2.alloc (.cells #[.int .i64 cn, .bool false, .bool sb] 23)) 23 #[.int .i64 dn, .bool da, .bool db]
      simp only [World.size_alloc] at b4
      have Fa : Hid (∀ w' : World, KB w [(w1.heap.size, 23, #[.int .i64 sn, .bool sa, .bool sb]), ((w1.heap.size + 1), 23, #[.int .i64 sm, .bool sc, .bool sd]), (w2.heap.size, 23, #[.int .i64 cn, .bool false, .bool sb]), ((w2.heap.size + 1), 23, #[.int .i64 dn, .bool da, .bool db])] w' → w'.cell? ⟨w1.heap.size, 0, none⟩ = some (.int .i64 sn) ∧ w'.cell? ⟨w1.heap.size, 1, none⟩ = some (.bool sa) ∧ w'.cell? ⟨w1.heap.size, 2, none⟩ = some (.bool sb) ∧ w'.cell? ⟨w2.heap.size, 0, none⟩ = some (.int .i64 cn) ∧ w'.cell? ⟨w2.heap.size, 1, none⟩ = some (.bool false) ∧ w'.cell? ⟨w2.heap.size, 2, none⟩ = some (.bool sb) ∧ KB w [(w1.heap.size, 23, #[.int .i64 sn, .bool sa, .bool sb]), ((w1.heap.size + 1), 23, #[.int .i64 sm, .bool sc, .bool sd]), (w2.heap.size, 23, #[.int .i64 cn, .bool false, .bool sb]), ((w2.heap.size + 1), 23, #[.int .i64 dn, .bool da, .bool db])] w') := fun w' h => ⟨(h.1 _ (List.mem_cons_self ..)).cell 0, (h.1 _ (List.mem_cons_self ..)).cell 1, (h.1 _ (List.mem_cons_self ..)).cell 2, (h.1 _ (List.mem_cons_of_mem _ (List.mem_cons_of_mem _ (List.mem_cons_self ..)))).cell 0, (h.1 _ (List.mem_cons_of_mem _ (List.mem_cons_of_mem _ (List.mem_cons_self ..)))).cell 1, (h.1 _ (List.mem_cons_of_mem _ (List.mem_cons_of_mem _ (List.mem_cons_self ..)))).cell 2, h⟩
      have Ga : Hid (∀ W w' : World, Below W.heap.size W w' → (W.cell? ⟨w1.heap.size, 0, none⟩ = some (.int .i64 sn) ∧ W.cell? ⟨w1.heap.size, 1, none⟩ = some (.bool sa) ∧ W.cell? ⟨w1.heap.size, 2, none⟩ = some (.bool sb) ∧ W.cell? ⟨w2.heap.size, 0, none⟩ = some (.int .i64 cn) ∧ W.cell? ⟨w2.heap.size, 1, none⟩ = some (.bool false) ∧ W.cell? ⟨w2.heap.size, 2, none⟩ = some (.bool sb) ∧ KB w [(w1.heap.size, 23, #[.int .i64 sn, .bool sa, .bool sb]), ((w1.heap.size + 1), 23, #[.int .i64 sm, .bool sc, .bool sd]), (w2.heap.size, 23, #[.int .i64 cn, .bool false, .bool sb]), ((w2.heap.size + 1), 23, #[.int .i64 dn, .bool da, .bool db])] W) → KB w [(w1.heap.size, 23, #[.int .i64 sn, .bool sa, .bool sb]), ((w1.heap.size + 1), 23, #[.int .i64 sm, .bool sc, .bool sd]), (w2.heap.size, 23, #[.int .i64 cn, .bool false, .bool sb]), ((w2.heap.size + 1), 23, #[.int .i64 dn, .bool da, .bool db])] w') := fun W w' hb h => kb_below hb h.2.2.2.2.2.2
      have Ka : KB w [(w1.heap.size, 23, #[.int .i64 sn, .bool sa, .bool sb]), ((w1.heap.size + 1), 23, #[.int .i64 sm, .bool sc, .bool sd]), (w2.heap.size, 23, #[.int .i64 cn, .bool false, .bool sb]), ((w2.heap.size + 1), 23, #[.int .i64 dn, .bool da, .bool db])] ((w2.alloc (.cells #[.int .i64 cn, .bool false, .bool sb] 23)).alloc (.cells #[.int .i64 dn, .bool da, .bool db] 23)) := kb_cons (((K2.1 _ (List.mem_cons_self ..)).alloc _).alloc _) (kb_cons (((K2.1 _ (List.mem_cons_of_mem _ (List.mem_cons_self ..))).alloc _).alloc _) (kb_cons ((Blk.new _ _ _).alloc _) (kb_cons b4 (kb_nil ((K2.2.alloc K2.2.size _).alloc (K2.2.alloc K2.2.size _).size _)))))
      clear b4 K2
      go_wp2_with fail
      go_region_held3 (fun w' => w'.cell? ⟨w1.heap.size, 0, none⟩ = some (.int .i64 sn) ∧ w'.cell? ⟨w1.heap.size, 1, none⟩ = some (.bool sa) ∧ w'.cell? ⟨w1.heap.size, 2, none⟩ = some (.bool sb) ∧ w'.cell? ⟨w2.heap.size, 0, none⟩ = some (.int .i64 cn) ∧ w'.cell? ⟨w2.heap.size, 1, none⟩ = some (.bool false) ∧ w'.cell? ⟨w2.heap.size, 2, none⟩ = some (.bool sb) ∧ KB w [(w1.heap.size, 23, #[.int .i64 sn, .bool sa, .bool sb]), ((w1.heap.size + 1), 23, #[.int .i64 sm, .bool sc, .bool sd]), (w2.heap.size, 23, #[.int .i64 cn, .bool false, .bool sb]), ((w2.heap.size + 1), 23, #[.int .i64 dn, .bool da, .bool db])] w') ((refine Fa.out _ ?_; first | (with_reducible assumption) | (with_reducible refine kb_dr ?_; with_reducible assumption)))
        (first | (go_at_call_of 16 (Value.agg #[Value.int IntKind.i64 cn, Value.bool false, Value.bool sb]); refine (sees_at cn false sb false u1 _).mono ?_; rintro e w3 ⟨rfl, hb3⟩; have K3 := Ga.out _ _ hb3 (by assumption); clear hb3) | (go_at_call_of 17 (Value.agg #[Value.int IntKind.i64 cn, Value.bool false, Value.bool sb]); refine (seen_at cn false sb (seenB sn) u2 _).mono ?_; rintro e w4 ⟨rfl, hb4⟩; have K4 := Ga.out _ _ hb4 (by assumption); clear hb4) | (go_at_call_of 17 (Value.agg #[Value.int IntKind.i64 sn, Value.bool sa, Value.bool sb]); refine (seen_any sn sa sb _).mono ?_; rintro e w5 ⟨rfl, hb5⟩; have K5 := Ga.out _ _ hb5 (by assumption); clear hb5))
      have x0 := (K5.1 _ (List.mem_cons_self ..)).cell 0
      have x1 := (K5.1 _ (List.mem_cons_self ..)).cell 1
      have x2 := (K5.1 _ (List.mem_cons_self ..)).cell 2
      have y0 := (K5.1 _ (List.mem_cons_of_mem _ (List.mem_cons_self ..))).cell 0
      have y1 := (K5.1 _ (List.mem_cons_of_mem _ (List.mem_cons_self ..))).cell 1
      have y2 := (K5.1 _ (List.mem_cons_of_mem _ (List.mem_cons_self ..))).cell 2
      simp only [List.getElem?_toArray, List.getElem?_cons_zero, List.getElem?_cons_succ] at x0 x1 x2 y0 y1 y2
      clear Ka Fa Ga K3 K4
      go_wp2_with fail
      refine (HB4 _).mono ?_
      rintro e w6 ⟨rfl, hb6⟩
      have K6 := kb_below hb6 K5
      clear hb6 K5 x0 x1 x2 y0 y1 y2
      have x0 := (K6.1 _ (List.mem_cons_of_mem _ (List.mem_cons_of_mem _ (List.mem_cons_self ..)))).cell 0
      have x1 := (K6.1 _ (List.mem_cons_of_mem _ (List.mem_cons_of_mem _ (List.mem_cons_self ..)))).cell 1
      have x2 := (K6.1 _ (List.mem_cons_of_mem _ (List.mem_cons_of_mem _ (List.mem_cons_self ..)))).cell 2
      have y0 := (K6.1 _ (List.mem_cons_of_mem _ (List.mem_cons_of_mem _ (List.mem_cons_of_mem _ (List.mem_cons_self ..))))).cell 0
      have y1 := (K6.1 _ (List.mem_cons_of_mem _ (List.mem_cons_of_mem _ (List.mem_cons_of_mem _ (List.mem_cons_self ..))))).cell 1
      have y2 := (K6.1 _ (List.mem_cons_of_mem _ (List.mem_cons_of_mem _ (List.mem_cons_of_mem _ (List.mem_cons_self ..))))).cell 2
      simp only [List.getElem?_toArray, List.getElem?_cons_zero, List.getElem?_cons_succ] at x0 x1 x2 y0 y1 y2
      have xf0 := (K6.1 _ (List.mem_cons_of_mem _ (List.mem_cons_of_mem _ (List.mem_cons_self ..)))).frozen 0
      have xf1 := (K6.1 _ (List.mem_cons_of_mem _ (List.mem_cons_of_mem _ (List.mem_cons_self ..)))).frozen 1
      have xf2 := (K6.1 _ (List.mem_cons_of_mem _ (List.mem_cons_of_mem _ (List.mem_cons_self ..)))).frozen 2
      have yf0 := (K6.1 _ (List.mem_cons_of_mem _ (List.mem_cons_of_mem _ (List.mem_cons_of_mem _ (List.mem_cons_self ..))))).frozen 0
      have yf1 := (K6.1 _ (List.mem_cons_of_mem _ (List.mem_cons_of_mem _ (List.mem_cons_of_mem _ (List.mem_cons_self ..))))).frozen 1
      have yf2 := (K6.1 _ (List.mem_cons_of_mem _ (List.mem_cons_of_mem _ (List.mem_cons_of_mem _ (List.mem_cons_self ..))))).frozen 2
      have Fb : Hid (∀ w' : World, KB w [(w1.heap.size, 23, #[.int .i64 sn, .bool sa, .bool sb]), ((w1.heap.size + 1), 23, #[.int .i64 sm, .bool sc, .bool sd]), (w2.heap.size, 23, #[.int .i64 en, .bool ea, .bool false]), ((w2.heap.size + 1), 23, #[.int .i64 fn, .bool fa, .bool fb])] w' → w'.cell? ⟨w1.heap.size, 0, none⟩ = some (.int .i64 sn) ∧ w'.cell? ⟨w1.heap.size, 1, none⟩ = some (.bool sa) ∧ w'.cell? ⟨w1.heap.size, 2, none⟩ = some (.bool sb) ∧ w'.cell? ⟨w2.heap.size, 0, none⟩ = some (.int .i64 en) ∧ w'.cell? ⟨w2.heap.size, 1, none⟩ = some (.bool ea) ∧ w'.cell? ⟨w2.heap.size, 2, none⟩ = some (.bool false) ∧ w'.cell? ⟨(w2.heap.size + 1), 0, none⟩ = some (.int .i64 fn) ∧ w'.cell? ⟨(w2.heap.size + 1), 1, none⟩ = some (.bool fa) ∧ w'.cell? ⟨(w2.heap.size + 1), 2, none⟩ = some (.bool fb) ∧ KB w [(w1.heap.size, 23, #[.int .i64 sn, .bool sa, .bool sb]), ((w1.heap.size + 1), 23, #[.int .i64 sm, .bool sc, .bool sd]), (w2.heap.size, 23, #[.int .i64 en, .bool ea, .bool false]), ((w2.heap.size + 1), 23, #[.int .i64 fn, .bool fa, .bool fb])] w') := fun w' h => ⟨(h.1 _ (List.mem_cons_self ..)).cell 0, (h.1 _ (List.mem_cons_self ..)).cell 1, (h.1 _ (List.mem_cons_self ..)).cell 2, (h.1 _ (List.mem_cons_of_mem _ (List.mem_cons_of_mem _ (List.mem_cons_self ..)))).cell 0, (h.1 _ (List.mem_cons_of_mem _ (List.mem_cons_of_mem _ (List.mem_cons_self ..)))).cell 1, (h.1 _ (List.mem_cons_of_mem _ (List.mem_cons_of_mem _ (List.mem_cons_self ..)))).cell 2, (h.1 _ (List.mem_cons_of_mem _ (List.mem_cons_of_mem _ (List.mem_cons_of_mem _ (List.mem_cons_self ..))))).cell 0, (h.1 _ (List.mem_cons_of_mem _ (List.mem_cons_of_mem _ (List.mem_cons_of_mem _ (List.mem_cons_self ..))))).cell 1, (h.1 _ (List.mem_cons_of_mem _ (List.mem_cons_of_mem _ (List.mem_cons_of_mem _ (List.mem_cons_self ..))))).cell 2, h⟩
      have Gb : Hid (∀ W w' : World, Below W.heap.size W w' → (W.cell? ⟨w1.heap.size, 0, none⟩ = some (.int .i64 sn) ∧ W.cell? ⟨w1.heap.size, 1, none⟩ = some (.bool sa) ∧ W.cell? ⟨w1.heap.size, 2, none⟩ = some (.bool sb) ∧ W.cell? ⟨w2.heap.size, 0, none⟩ = some (.int .i64 en) ∧ W.cell? ⟨w2.heap.size, 1, none⟩ = some (.bool ea) ∧ W.cell? ⟨w2.heap.size, 2, none⟩ = some (.bool false) ∧ W.cell? ⟨(w2.heap.size + 1), 0, none⟩ = some (.int .i64 fn) ∧ W.cell? ⟨(w2.heap.size + 1), 1, none⟩ = some (.bool fa) ∧ W.cell? ⟨(w2.heap.size + 1), 2, none⟩ = some (.bool fb) ∧ KB w [(w1.heap.size, 23, #[.int .i64 sn, .bool sa, .bool sb]), ((w1.heap.size + 1), 23, #[.int .i64 sm, .bool sc, .bool sd]), (w2.heap.size, 23, #[.int .i64 en, .bool ea, .bool false]), ((w2.heap.size + 1), 23, #[.int .i64 fn, .bool fa, .bool fb])] W) → KB w [(w1.heap.size, 23, #[.int .i64 sn, .bool sa, .bool sb]), ((w1.heap.size + 1), 23, #[.int .i64 sm, .bool sc, .bool sd]), (w2.heap.size, 23, #[.int .i64 en, .bool ea, .bool false]), ((w2.heap.size + 1), 23, #[.int .i64 fn, .bool fa, .bool fb])] w') := fun W w' hb h => kb_below hb h.2.2.2.2.2.2.2.2.2
      have Kb : KB w [(w1.heap.size, 23, #[.int .i64 sn, .bool sa, .bool sb]), ((w1.heap.size + 1), 23, #[.int .i64 sm, .bool sc, .bool sd]), (w2.heap.size, 23, #[.int .i64 en, .bool ea, .bool false]), ((w2.heap.size + 1), 23, #[.int .i64 fn, .bool fa, .bool fb])] ((((((w6.setCell ⟨w2.heap.size, 0, none⟩ (.int .i64 en)).setCell ⟨w2.heap.size, 1, none⟩ (.bool ea)).setCell ⟨w2.heap.size, 2, none⟩ (.bool false)).setCell ⟨(w2.heap.size + 1), 0, none⟩ (.int .i64 fn)).setCell ⟨(w2.heap.size + 1), 1, none⟩ (.bool fa)).setCell ⟨(w2.heap.size + 1), 2, none⟩ (.bool fb)) := kb_cons (((K6.1 _ (List.mem_cons_self ..)).far3 (g' := w2.heap.size) (by omega) (.int .i64 en) (.bool ea) (.bool false)).far3 (g' := (w2.heap.size + 1)) (by omega) (.int .i64 fn) (.bool fa) (.bool fb)) (kb_cons (((K6.1 _ (List.mem_cons_of_mem _ (List.mem_cons_self ..))).far3 (g' := w2.heap.size) (by omega) (.int .i64 en) (.bool ea) (.bool false)).far3 (g' := (w2.heap.size + 1)) (by omega) (.int .i64 fn) (.bool fa) (.bool fb)) (kb_cons (((K6.1 _ (List.mem_cons_of_mem _ (List.mem_cons_of_mem _ (List.mem_cons_self ..)))).store3 (x' := .int .i64 en) (y' := .bool ea) (z' := .bool false)).far3 (g' := (w2.heap.size + 1)) (by omega) (.int .i64 fn) (.bool fa) (.bool fb)) (kb_cons (((K6.1 _ (List.mem_cons_of_mem _ (List.mem_cons_of_mem _ (List.mem_cons_of_mem _ (List.mem_cons_self ..))))).far3 (g' := w2.heap.size) (by omega) (.int .i64 en) (.bool ea) (.bool false)).store3 (x' := .int .i64 fn) (y' := .bool fa) (z' := .bool fb)) (kb_nil (below_set3 (below_set3 K6.2 (g := w2.heap.size) (by omega) (.int .i64 en) (.bool ea) (.bool false)) (g := (w2.heap.size + 1)) (by omega) (.int .i64 fn) (.bool fa) (.bool fb))))))
      clear K6
      go_wp2_with fail
      clear x0 x1 x2 y0 y1 y2 xf0 xf1 xf2 yf0 yf1 yf2
      go_region_held3 (fun w' => w'.cell? ⟨w1.heap.size, 0, none⟩ = some (.int .i64 sn) ∧ w'.cell? ⟨w1.heap.size, 1, none⟩ = some (.bool sa) ∧ w'.cell? ⟨w1.heap.size, 2, none⟩ = some (.bool sb) ∧ w'.cell? ⟨w2.heap.size, 0, none⟩ = some (.int .i64 en) ∧ w'.cell? ⟨w2.heap.size, 1, none⟩ = some (.bool ea) ∧ w'.cell? ⟨w2.heap.size, 2, none⟩ = some (.bool false) ∧ w'.cell? ⟨(w2.heap.size + 1), 0, none⟩ = some (.int .i64 fn) ∧ w'.cell? ⟨(w2.heap.size + 1), 1, none⟩ = some (.bool fa) ∧ w'.cell? ⟨(w2.heap.size + 1), 2, none⟩ = some (.bool fb) ∧ KB w [(w1.heap.size, 23, #[.int .i64 sn, .bool sa, .bool sb]), ((w1.heap.size + 1), 23, #[.int .i64 sm, .bool sc, .bool sd]), (w2.heap.size, 23, #[.int .i64 en, .bool ea, .bool false]), ((w2.heap.size + 1), 23, #[.int .i64 fn, .bool fa, .bool fb])] w') ((refine Fb.out _ ?_; first | (with_reducible assumption) | (with_reducible refine kb_dr ?_; with_reducible assumption)))
        (first | (go_at_call_of 17 (Value.agg #[Value.int IntKind.i64 en, Value.bool ea, Value.bool false]); refine (seen_at en ea false false u3 _).mono ?_; rintro e w7 ⟨rfl, hb7⟩; have K7 := Gb.out _ _ hb7 (by assumption); clear hb7) | (go_at_call_of 16 (Value.agg #[Value.int IntKind.i64 en, Value.bool ea, Value.bool false]); refine (sees_at en ea false (seesB sn) u4 _).mono ?_; rintro e w8 ⟨rfl, hb8⟩; have K8 := Gb.out _ _ hb8 (by assumption); clear hb8) | (go_at_call_of 16 (Value.agg #[Value.int IntKind.i64 sn, Value.bool sa, Value.bool sb]); refine (sees_any sn sa sb _).mono ?_; rintro e w9 ⟨rfl, hb9⟩; have K9 := Gb.out _ _ hb9 (by assumption); clear hb9) | (go_at_call_of 16 (Value.agg #[Value.int IntKind.i64 fn, Value.bool fa, Value.bool fb]); refine (sees_at fn fa fb false u5 _).mono ?_; rintro e w10 ⟨rfl, hb10⟩; have K10 := Gb.out _ _ hb10 (by assumption); clear hb10))
      have x0 := (K10.1 _ (List.mem_cons_self ..)).cell 0
      have x1 := (K10.1 _ (List.mem_cons_self ..)).cell 1
      have x2 := (K10.1 _ (List.mem_cons_self ..)).cell 2
      have y0 := (K10.1 _ (List.mem_cons_of_mem _ (List.mem_cons_self ..))).cell 0
      have y1 := (K10.1 _ (List.mem_cons_of_mem _ (List.mem_cons_self ..))).cell 1
      have y2 := (K10.1 _ (List.mem_cons_of_mem _ (List.mem_cons_self ..))).cell 2
      simp only [List.getElem?_toArray, List.getElem?_cons_zero, List.getElem?_cons_succ] at x0 x1 x2 y0 y1 y2
      clear Kb Fb Gb K7 K8 K9
      go_wp2_with fail
      refine (HB1 _).mono ?_
      rintro e w11 ⟨rfl, hb11⟩
      have K11 := kb_below hb11 K10
      clear hb11 K10 x0 x1 x2 y0 y1 y2
      have x0 := (K11.1 _ (List.mem_cons_of_mem _ (List.mem_cons_of_mem _ (List.mem_cons_self ..)))).cell 0
      have x1 := (K11.1 _ (List.mem_cons_of_mem _ (List.mem_cons_of_mem _ (List.mem_cons_self ..)))).cell 1
      have x2 := (K11.1 _ (List.mem_cons_of_mem _ (List.mem_cons_of_mem _ (List.mem_cons_self ..)))).cell 2
      have y0 := (K11.1 _ (List.mem_cons_of_mem _ (List.mem_cons_of_mem _ (List.mem_cons_of_mem _ (List.mem_cons_self ..))))).cell 0
      have y1 := (K11.1 _ (List.mem_cons_of_mem _ (List.mem_cons_of_mem _ (List.mem_cons_of_mem _ (List.mem_cons_self ..))))).cell 1
      have y2 := (K11.1 _ (List.mem_cons_of_mem _ (List.mem_cons_of_mem _ (List.mem_cons_of_mem _ (List.mem_cons_self ..))))).cell 2
      simp only [List.getElem?_toArray, List.getElem?_cons_zero, List.getElem?_cons_succ] at x0 x1 x2 y0 y1 y2
      have xf0 := (K11.1 _ (List.mem_cons_of_mem _ (List.mem_cons_of_mem _ (List.mem_cons_self ..)))).frozen 0
      have xf1 := (K11.1 _ (List.mem_cons_of_mem _ (List.mem_cons_of_mem _ (List.mem_cons_self ..)))).frozen 1
      have xf2 := (K11.1 _ (List.mem_cons_of_mem _ (List.mem_cons_of_mem _ (List.mem_cons_self ..)))).frozen 2
      have yf0 := (K11.1 _ (List.mem_cons_of_mem _ (List.mem_cons_of_mem _ (List.mem_cons_of_mem _ (List.mem_cons_self ..))))).frozen 0
      have yf1 := (K11.1 _ (List.mem_cons_of_mem _ (List.mem_cons_of_mem _ (List.mem_cons_of_mem _ (List.mem_cons_self ..))))).frozen 1
      have yf2 := (K11.1 _ (List.mem_cons_of_mem _ (List.mem_cons_of_mem _ (List.mem_cons_of_mem _ (List.mem_cons_self ..))))).frozen 2
      have K12 : KB w [(w1.heap.size, 23, #[.int .i64 sn, .bool sa, .bool sb]), ((w1.heap.size + 1), 23, #[.int .i64 sm, .bool sc, .bool sd]), (w2.heap.size, 23, #[.int .i64 gn, .bool ga, .bool gb]), ((w2.heap.size + 1), 23, #[.int .i64 un, .bool ua, .bool ub])] ((((((w11.setCell ⟨w2.heap.size, 0, none⟩ (.int .i64 gn)).setCell ⟨w2.heap.size, 1, none⟩ (.bool ga)).setCell ⟨w2.heap.size, 2, none⟩ (.bool gb)).setCell ⟨(w2.heap.size + 1), 0, none⟩ (.int .i64 un)).setCell ⟨(w2.heap.size + 1), 1, none⟩ (.bool ua)).setCell ⟨(w2.heap.size + 1), 2, none⟩ (.bool ub)) := kb_cons (((K11.1 _ (List.mem_cons_self ..)).far3 (g' := w2.heap.size) (by omega) (.int .i64 gn) (.bool ga) (.bool gb)).far3 (g' := (w2.heap.size + 1)) (by omega) (.int .i64 un) (.bool ua) (.bool ub)) (kb_cons (((K11.1 _ (List.mem_cons_of_mem _ (List.mem_cons_self ..))).far3 (g' := w2.heap.size) (by omega) (.int .i64 gn) (.bool ga) (.bool gb)).far3 (g' := (w2.heap.size + 1)) (by omega) (.int .i64 un) (.bool ua) (.bool ub)) (kb_cons (((K11.1 _ (List.mem_cons_of_mem _ (List.mem_cons_of_mem _ (List.mem_cons_self ..)))).store3 (x' := .int .i64 gn) (y' := .bool ga) (z' := .bool gb)).far3 (g' := (w2.heap.size + 1)) (by omega) (.int .i64 un) (.bool ua) (.bool ub)) (kb_cons (((K11.1 _ (List.mem_cons_of_mem _ (List.mem_cons_of_mem _ (List.mem_cons_of_mem _ (List.mem_cons_self ..))))).far3 (g' := w2.heap.size) (by omega) (.int .i64 gn) (.bool ga) (.bool gb)).store3 (x' := .int .i64 un) (y' := .bool ua) (z' := .bool ub)) (kb_nil (below_set3 (below_set3 K11.2 (g := w2.heap.size) (by omega) (.int .i64 gn) (.bool ga) (.bool gb)) (g := (w2.heap.size + 1)) (by omega) (.int .i64 un) (.bool ua) (.bool ub))))))
      clear K11
      have p0 := (K12.1 _ (List.mem_cons_of_mem _ (List.mem_cons_of_mem _ (List.mem_cons_self ..)))).cell 0
      have p1 := (K12.1 _ (List.mem_cons_of_mem _ (List.mem_cons_of_mem _ (List.mem_cons_self ..)))).cell 1
      have p2 := (K12.1 _ (List.mem_cons_of_mem _ (List.mem_cons_of_mem _ (List.mem_cons_self ..)))).cell 2
      have q0 := (K12.1 _ (List.mem_cons_of_mem _ (List.mem_cons_of_mem _ (List.mem_cons_of_mem _ (List.mem_cons_self ..))))).cell 0
      have q1 := (K12.1 _ (List.mem_cons_of_mem _ (List.mem_cons_of_mem _ (List.mem_cons_of_mem _ (List.mem_cons_self ..))))).cell 1
      have q2 := (K12.1 _ (List.mem_cons_of_mem _ (List.mem_cons_of_mem _ (List.mem_cons_of_mem _ (List.mem_cons_self ..))))).cell 2
      simp only [List.getElem?_toArray, List.getElem?_cons_zero, List.getElem?_cons_succ] at p0 p1 p2 q0 q1 q2
      go_wp2_with fail
      clear x0 x1 x2 y0 y1 y2 xf0 xf1 xf2 yf0 yf1 yf2 p0 p1 p2 q0 q1 q2
      refine (HB2 _).mono ?_
      rintro e w13 ⟨rfl, hb13⟩
      have K13 := kb_below hb13 K12
      clear hb13 K12
      have x0 := (K13.1 _ (List.mem_cons_of_mem _ (List.mem_cons_of_mem _ (List.mem_cons_self ..)))).cell 0
      have x1 := (K13.1 _ (List.mem_cons_of_mem _ (List.mem_cons_of_mem _ (List.mem_cons_self ..)))).cell 1
      have x2 := (K13.1 _ (List.mem_cons_of_mem _ (List.mem_cons_of_mem _ (List.mem_cons_self ..)))).cell 2
      have y0 := (K13.1 _ (List.mem_cons_of_mem _ (List.mem_cons_of_mem _ (List.mem_cons_of_mem _ (List.mem_cons_self ..))))).cell 0
      have y1 := (K13.1 _ (List.mem_cons_of_mem _ (List.mem_cons_of_mem _ (List.mem_cons_of_mem _ (List.mem_cons_self ..))))).cell 1
      have y2 := (K13.1 _ (List.mem_cons_of_mem _ (List.mem_cons_of_mem _ (List.mem_cons_of_mem _ (List.mem_cons_self ..))))).cell 2
      simp only [List.getElem?_toArray, List.getElem?_cons_zero, List.getElem?_cons_succ] at x0 x1 x2 y0 y1 y2
      have xf0 := (K13.1 _ (List.mem_cons_of_mem _ (List.mem_cons_of_mem _ (List.mem_cons_self ..)))).frozen 0
      have xf1 := (K13.1 _ (List.mem_cons_of_mem _ (List.mem_cons_of_mem _ (List.mem_cons_self ..)))).frozen 1
      have xf2 := (K13.1 _ (List.mem_cons_of_mem _ (List.mem_cons_of_mem _ (List.mem_cons_self ..)))).frozen 2
      have yf0 := (K13.1 _ (List.mem_cons_of_mem _ (List.mem_cons_of_mem _ (List.mem_cons_of_mem _ (List.mem_cons_self ..))))).frozen 0
      have yf1 := (K13.1 _ (List.mem_cons_of_mem _ (List.mem_cons_of_mem _ (List.mem_cons_of_mem _ (List.mem_cons_self ..))))).frozen 1
      have yf2 := (K13.1 _ (List.mem_cons_of_mem _ (List.mem_cons_of_mem _ (List.mem_cons_of_mem _ (List.mem_cons_self ..))))).frozen 2
      have Fc : Hid (∀ w' : World, KB w [(w1.heap.size, 23, #[.int .i64 sn, .bool sa, .bool sb]), ((w1.heap.size + 1), 23, #[.int .i64 sm, .bool sc, .bool sd]), (w2.heap.size, 23, #[.int .i64 ln, .bool la, .bool lb]), ((w2.heap.size + 1), 23, #[.int .i64 kn, .bool ka, .bool kb])] w' → w'.cell? ⟨w1.heap.size, 0, none⟩ = some (.int .i64 sn) ∧ w'.cell? ⟨w1.heap.size, 1, none⟩ = some (.bool sa) ∧ w'.cell? ⟨w1.heap.size, 2, none⟩ = some (.bool sb) ∧ w'.cell? ⟨w2.heap.size, 0, none⟩ = some (.int .i64 ln) ∧ w'.cell? ⟨w2.heap.size, 1, none⟩ = some (.bool la) ∧ w'.cell? ⟨w2.heap.size, 2, none⟩ = some (.bool lb) ∧ w'.cell? ⟨(w2.heap.size + 1), 0, none⟩ = some (.int .i64 kn) ∧ w'.cell? ⟨(w2.heap.size + 1), 1, none⟩ = some (.bool ka) ∧ w'.cell? ⟨(w2.heap.size + 1), 2, none⟩ = some (.bool kb) ∧ KB w [(w1.heap.size, 23, #[.int .i64 sn, .bool sa, .bool sb]), ((w1.heap.size + 1), 23, #[.int .i64 sm, .bool sc, .bool sd]), (w2.heap.size, 23, #[.int .i64 ln, .bool la, .bool lb]), ((w2.heap.size + 1), 23, #[.int .i64 kn, .bool ka, .bool kb])] w') := fun w' h => ⟨(h.1 _ (List.mem_cons_self ..)).cell 0, (h.1 _ (List.mem_cons_self ..)).cell 1, (h.1 _ (List.mem_cons_self ..)).cell 2, (h.1 _ (List.mem_cons_of_mem _ (List.mem_cons_of_mem _ (List.mem_cons_self ..)))).cell 0, (h.1 _ (List.mem_cons_of_mem _ (List.mem_cons_of_mem _ (List.mem_cons_self ..)))).cell 1, (h.1 _ (List.mem_cons_of_mem _ (List.mem_cons_of_mem _ (List.mem_cons_self ..)))).cell 2, (h.1 _ (List.mem_cons_of_mem _ (List.mem_cons_of_mem _ (List.mem_cons_of_mem _ (List.mem_cons_self ..))))).cell 0, (h.1 _ (List.mem_cons_of_mem _ (List.mem_cons_of_mem _ (List.mem_cons_of_mem _ (List.mem_cons_self ..))))).cell 1, (h.1 _ (List.mem_cons_of_mem _ (List.mem_cons_of_mem _ (List.mem_cons_of_mem _ (List.mem_cons_self ..))))).cell 2, h⟩
      have Gc : Hid (∀ W w' : World, Below W.heap.size W w' → (W.cell? ⟨w1.heap.size, 0, none⟩ = some (.int .i64 sn) ∧ W.cell? ⟨w1.heap.size, 1, none⟩ = some (.bool sa) ∧ W.cell? ⟨w1.heap.size, 2, none⟩ = some (.bool sb) ∧ W.cell? ⟨w2.heap.size, 0, none⟩ = some (.int .i64 ln) ∧ W.cell? ⟨w2.heap.size, 1, none⟩ = some (.bool la) ∧ W.cell? ⟨w2.heap.size, 2, none⟩ = some (.bool lb) ∧ W.cell? ⟨(w2.heap.size + 1), 0, none⟩ = some (.int .i64 kn) ∧ W.cell? ⟨(w2.heap.size + 1), 1, none⟩ = some (.bool ka) ∧ W.cell? ⟨(w2.heap.size + 1), 2, none⟩ = some (.bool kb) ∧ KB w [(w1.heap.size, 23, #[.int .i64 sn, .bool sa, .bool sb]), ((w1.heap.size + 1), 23, #[.int .i64 sm, .bool sc, .bool sd]), (w2.heap.size, 23, #[.int .i64 ln, .bool la, .bool lb]), ((w2.heap.size + 1), 23, #[.int .i64 kn, .bool ka, .bool kb])] W) → KB w [(w1.heap.size, 23, #[.int .i64 sn, .bool sa, .bool sb]), ((w1.heap.size + 1), 23, #[.int .i64 sm, .bool sc, .bool sd]), (w2.heap.size, 23, #[.int .i64 ln, .bool la, .bool lb]), ((w2.heap.size + 1), 23, #[.int .i64 kn, .bool ka, .bool kb])] w') := fun W w' hb h => kb_below hb h.2.2.2.2.2.2.2.2.2
      have Kc : KB w [(w1.heap.size, 23, #[.int .i64 sn, .bool sa, .bool sb]), ((w1.heap.size + 1), 23, #[.int .i64 sm, .bool sc, .bool sd]), (w2.heap.size, 23, #[.int .i64 ln, .bool la, .bool lb]), ((w2.heap.size + 1), 23, #[.int .i64 kn, .bool ka, .bool kb])] ((((((w13.setCell ⟨(w2.heap.size + 1), 0, none⟩ (.int .i64 kn)).setCell ⟨(w2.heap.size + 1), 1, none⟩ (.bool ka)).setCell ⟨(w2.heap.size + 1), 2, none⟩ (.bool kb)).setCell ⟨w2.heap.size, 0, none⟩ (.int .i64 ln)).setCell ⟨w2.heap.size, 1, none⟩ (.bool la)).setCell ⟨w2.heap.size, 2, none⟩ (.bool lb)) := kb_cons (((K13.1 _ (List.mem_cons_self ..)).far3 (g' := (w2.heap.size + 1)) (by omega) (.int .i64 kn) (.bool ka) (.bool kb)).far3 (g' := w2.heap.size) (by omega) (.int .i64 ln) (.bool la) (.bool lb)) (kb_cons (((K13.1 _ (List.mem_cons_of_mem _ (List.mem_cons_self ..))).far3 (g' := (w2.heap.size + 1)) (by omega) (.int .i64 kn) (.bool ka) (.bool kb)).far3 (g' := w2.heap.size) (by omega) (.int .i64 ln) (.bool la) (.bool lb)) (kb_cons (((K13.1 _ (List.mem_cons_of_mem _ (List.mem_cons_of_mem _ (List.mem_cons_self ..)))).far3 (g' := (w2.heap.size + 1)) (by omega) (.int .i64 kn) (.bool ka) (.bool kb)).store3 (x' := .int .i64 ln) (y' := .bool la) (z' := .bool lb)) (kb_cons (((K13.1 _ (List.mem_cons_of_mem _ (List.mem_cons_of_mem _ (List.mem_cons_of_mem _ (List.mem_cons_self ..))))).store3 (x' := .int .i64 kn) (y' := .bool ka) (z' := .bool kb)).far3 (g' := w2.heap.size) (by omega) (.int .i64 ln) (.bool la) (.bool lb)) (kb_nil (below_set3 (below_set3 K13.2 (g := (w2.heap.size + 1)) (by omega) (.int .i64 kn) (.bool ka) (.bool kb)) (g := w2.heap.size) (by omega) (.int .i64 ln) (.bool la) (.bool lb))))))
      clear K13
      go_wp2_with fail
      clear x0 x1 x2 y0 y1 y2 xf0 xf1 xf2 yf0 yf1 yf2
      go_region_held3 (fun w' => w'.cell? ⟨w1.heap.size, 0, none⟩ = some (.int .i64 sn) ∧ w'.cell? ⟨w1.heap.size, 1, none⟩ = some (.bool sa) ∧ w'.cell? ⟨w1.heap.size, 2, none⟩ = some (.bool sb) ∧ w'.cell? ⟨w2.heap.size, 0, none⟩ = some (.int .i64 ln) ∧ w'.cell? ⟨w2.heap.size, 1, none⟩ = some (.bool la) ∧ w'.cell? ⟨w2.heap.size, 2, none⟩ = some (.bool lb) ∧ w'.cell? ⟨(w2.heap.size + 1), 0, none⟩ = some (.int .i64 kn) ∧ w'.cell? ⟨(w2.heap.size + 1), 1, none⟩ = some (.bool ka) ∧ w'.cell? ⟨(w2.heap.size + 1), 2, none⟩ = some (.bool kb) ∧ KB w [(w1.heap.size, 23, #[.int .i64 sn, .bool sa, .bool sb]), ((w1.heap.size + 1), 23, #[.int .i64 sm, .bool sc, .bool sd]), (w2.heap.size, 23, #[.int .i64 ln, .bool la, .bool lb]), ((w2.heap.size + 1), 23, #[.int .i64 kn, .bool ka, .bool kb])] w') ((refine Fc.out _ ?_; first | (with_reducible assumption) | (with_reducible refine kb_dr ?_; with_reducible assumption)))
        (first | (go_at_call_of 16 (Value.agg #[Value.int IntKind.i64 ln, Value.bool la, Value.bool lb]); refine (sees_at ln la lb true u6 _).mono ?_; rintro e w14 ⟨rfl, hb14⟩; have K14 := Gc.out _ _ hb14 (by assumption); clear hb14) | (go_at_call_of 17 (Value.agg #[Value.int IntKind.i64 kn, Value.bool ka, Value.bool kb]); refine (seen_at kn ka kb true u7 _).mono ?_; rintro e w15 ⟨rfl, hb15⟩; have K15 := Gc.out _ _ hb15 (by assumption); clear hb15) | (go_at_call_of 17 (Value.agg #[Value.int IntKind.i64 ln, Value.bool la, Value.bool lb]); refine (seen_at ln la lb (seenB sn) u8 _).mono ?_; rintro e w16 ⟨rfl, hb16⟩; have K16 := Gc.out _ _ hb16 (by assumption); clear hb16) | (go_at_call_of 17 (Value.agg #[Value.int IntKind.i64 sn, Value.bool sa, Value.bool sb]); refine (seen_any sn sa sb _).mono ?_; rintro e w17 ⟨rfl, hb17⟩; have K17 := Gc.out _ _ hb17 (by assumption); clear hb17))
      go_wp2
      go_ret
      exact ⟨rfl, K17.2⟩

set_option maxRecDepth 100000 in
theorem pactUndo_lifted (os : Os) (started : os.Started) (H : Type) (enc : TypeId × Value → H) :
    ReturnsInHanded {} Try.checked os 5 .any (Rows.pactUndoSpec.pre6 enc Try.prog Try.f5 Rows.pactUndoRow.domain false) (Rows.pactUndoSpec.post enc Try.prog Try.f5 false true false false) := by
  refine returnsInHanded_of_change (C := Try.checked) Try.own started (by kernel_rfl) Try.func5
    (ChangeSpec.witness6 (enc := enc) (C := Try.checked) false ⟨#[], #[.slice none 0 0, .slice none 0 0], []⟩ 8 (by kernel_rfl) (by kernel_rfl) (by kernel_rfl) (by kernel_rfl)) ?_
  intro W base args ds gs before hval0 hW hcnd _
  have hval : ∀ (j : Nat) t v, Try.f5.params[j]? = some t → args[j]? = some v → Value.okWide Try.prog W .any base t v := hval0
  have hW' := hW
  obtain ⟨p, q, hA0, hV, rfl, hfz, hnd⟩ := hW
  have hA : DataW.TrodAll enc Try.prog W 0 (fun _ => true) true Try.f5.params.toList args.toList ds p := hA0
  have hA1 := hA
  rw [Try.params5] at hA hval
  obtain ⟨v0, v1, d0, d1, p0, p1, rfl, rfl, rfl, h0, h1⟩ := trodAll_two hA
  obtain ⟨rfl, rfl⟩ := trodVars_none hV
  obtain ⟨A, n, ca, rfl, hn, hi⟩ := ints_of Try.underlying38 Try.underlying3 (by kernel_rfl) (hval 0 38 v0 rfl rfl) h0
  obtain ⟨B, m, cb, rfl, hm, hb⟩ := bools_of Try.underlying39 Try.underlying4 (by kernel_rfl) (hval 1 39 v1 rfl rfl) h1
  clear hA0 hval0
  simp only [List.append_nil] at hW' hA1
  refine (undo_any A B n ca m cb W (by unfold maxLen at hn; omega) hi hb).mono fun e W' ⟨he, hb⟩ => ?_
  subst he
  have hts : ∀ t ∈ Try.f5.params.toList, Try.prog.readableRec t = true ∧ t < Try.prog.types.size := by
    rw [Try.params5]
    intro t ht
    simp at ht
    rcases ht with rfl | rfl
    · exact ⟨by kernel_rfl, of_decide_eq_true (by kernel_rfl)⟩
    · exact ⟨by kernel_rfl, of_decide_eq_true (by kernel_rfl)⟩
  exact ⟨_, rfl, post_of_below (pa := p0 ++ p1) (pv := []) hW' (fun _ _ _ => trodAll_mk1 (shut_bool Try.underlying4 _)) (fun sp hsp => trodAll_below Try.laidOut hb hts hA1 (fun x hx => ⟨hW'.lt x hx, hsp x hx⟩)) (fun _ _ => rfl) (by simp)
    hb (ok_one (by kernel_rfl) rfl (okWide_bool_mk Try.underlying4 _))⟩

theorem pactUndo_holds : Rows.PactUndoSaid :=
  OpenClaim.holds_of_wide 5 Try.f5 rfl rfl rfl rfl rfl rfl rfl ⟨rfl, rfl, rfl, rfl, rfl⟩ rfl rfl rfl rfl rfl (by kernel_rfl) Try.func5 (by kernel_rfl)
    (of_decide_eq_true (by kernel_rfl)) (by unfold Func.isWrapper; first | (rw [if_pos (by decide +kernel)]; kernel_rfl) | (rw [if_neg (by decide +kernel)]; exact ⟨rfl, rfl⟩))
    (fun os started H enc _ => pactUndo_lifted os started H enc)
#print axioms pactUndo_holds
end Go.Proofs.Ytajdhlcnfmlkiaa
