import Derived.Test.YtoilapjkgligfaaDoorKP
import Derived.Test.YtoilapjkgligfaaDoorKa2
import Derived.Test.YtoilapjkgligfaaDoorKGOne
import Derived.Test.YtoilapjkgligfaaDoorKa1
namespace Go.Proofs.YtoilapjkgligfaaDoor.P
open Go.RowKit Go.Proofs.YtoilapjkgligfaaDoorW.PrintWords Go.Proofs.YtoilapjkgligfaaDoorW.PrintLast Go.Proofs.YtoilapjkgligfaaDoorW.PrintMore
attribute [local go_sem] max2_int min2_int max_two min_two max_three min_three max_four min_four 
set_option linter.unusedVariables false
set_option linter.unusedSimpArgs false
mutual
def ir_Check.j0 : Nat → Bool → ByteArray → Int → Int → List (List (S32)) → Option (Int)
 | 0, _, _, _, _, _ => none
 | k + 1, x46, y0, y1, y2, y3 => if x46 = true then (some 71) else (ir_Check.l0 k 200 y3 (y3.length : Int) 0 y0 y1 y2 y3)
def ir_Check.l0 : Nat → Int → List (List (S32)) → Int → Int → ByteArray → Int → Int → List (List (S32)) → Option (Int)
 | 0, _, _, _, _, _, _, _, _ => none
 | k + 1, x3, x48, x49, x50, y0, y1, y2, y3 => if x50 < x49 then (if 0 ≤ x50 then (if x50 < (x48.length : Int) then (if ((rd_LT32 x48 x50).length : Int) = 0 then (some 71) else (if ((rd_LT32 x48 x50).length : Int) > x3 then (some 71) else (ir_Check.l0 k (wrap64 (x3 - ((rd_LT32 x48 x50).length : Int))) x48 x49 (wrap64 (x50 + 1)) y0 y1 y2 y3))) else (none)) else (none)) else (ir_Check.l1 k y3 (y3.length : Int) 0 y0 y1 y2 y3)
def ir_Check.l1 : Nat → List (List (S32)) → Int → Int → ByteArray → Int → Int → List (List (S32)) → Option (Int)
 | 0, _, _, _, _, _, _, _ => none
 | k + 1, x69, x70, x71, y0, y1, y2, y3 => if x71 < x70 then (if 0 ≤ x71 then (if x71 < (x69.length : Int) then (ir_Check.l2 k (rd_LT32 x69 x71) x69 x70 x71 (rd_LT32 x69 x71) ((rd_LT32 x69 x71).length : Int) 0 y0 y1 y2 y3) else (none)) else (none)) else (some 0)
def ir_Check.l2 : Nat → List (S32) → List (List (S32)) → Int → Int → List (S32) → Int → Int → ByteArray → Int → Int → List (List (S32)) → Option (Int)
 | 0, _, _, _, _, _, _, _, _, _, _, _ => none
 | k + 1, x7, x69, x70, x71, x75, x76, x77, y0, y1, y2, y3 => if x77 < x76 then (if 0 ≤ x77 then (if x77 < (x75.length : Int) then ((ir_one.f k y0 y1 y2 y3 ((rd_T32 x75 x77).f0) ((rd_T32 x75 x77).f1) ((rd_T32 x75 x77).f2) ((rd_T32 x75 x77).f3) ((rd_T32 x75 x77).f4) ((rd_T32 x75 x77).f5) (x77 == (wrap64 ((x7.length : Int) - 1)))).bind fun t428 => (if t428 = 0 then (ir_Check.l2 k x7 x69 x70 x71 x75 x76 (wrap64 (x77 + 1)) y0 y1 y2 y3) else (some t428))) else (none)) else (none)) else (ir_Check.l1 k x69 x70 (wrap64 (x71 + 1)) y0 y1 y2 y3)
end
def ir_Check.f (k : Nat) (a0_0 : ByteArray) (a0_1 : Int) (a0_2 : Int) (l0_3 : List (List (S32))) : Option (Int) := (ir_Name.f a0_0).bind fun t423 => (if t423 = true then (if a0_1 < 0 then (ir_Check.j0 k true a0_0 a0_1 a0_2 l0_3) else (if a0_1 > 4 then (ir_Check.j0 k true a0_0 a0_1 a0_2 l0_3) else (if a0_2 < a0_1 then (ir_Check.j0 k true a0_0 a0_1 a0_2 l0_3) else (if a0_2 > 64 then (ir_Check.j0 k true a0_0 a0_1 a0_2 l0_3) else (if (l0_3.length : Int) < 1 then (ir_Check.j0 k true a0_0 a0_1 a0_2 l0_3) else (ir_Check.j0 k (decide ((l0_3.length : Int) > 32)) a0_0 a0_1 a0_2 l0_3)))))) else (some 70))
set_option maxHeartbeats 8000000 in
set_option maxRecDepth 100000 in
theorem ir_Check.calls (k : Nat) (a0_0 : ByteArray) (a0_1 : Int) (a0_2 : Int) (A0_3 : Option Addr) (c0_3 : Nat) (l0_3 : List (List (S32))) (r : Int) (w : World) (hGS : GS w) (hr0_3 : Kd.C (Kd.slice 32 k32) w A0_3 l0_3.length l0_3) (hc0_3 : l0_3.length ≤ c0_3) (h : ir_Check.f k a0_0 a0_1 a0_2 l0_3 = some r) :
  Calls Tryd.prog 27 #[.agg #[.string a0_0, .int .i64 a0_1, .int .i64 a0_2, .slice A0_3 l0_3.length c0_3]] w fun e w' => e = .returned (.int .i64 r) ∧ Below w.heap.size w w' := by
 have hu24 := Tryd.underlying24
 have hu32 := Tryd.underlying32
 have HGS := Aside0.mk hGS
 clear hGS
 have HR0_3 := Aside0.mk hr0_3
 have HC0_3 := Aside0.mk hc0_3
 clear hr0_3 hc0_3
 have HB := Aside0.mk (Below.refl w.heap.size w)
 have H : ((ir_Name.f a0_0).bind fun t423 => (if t423 = true then (if a0_1 < 0 then (ir_Check.j0 k true a0_0 a0_1 a0_2 l0_3) else (if a0_1 > 4 then (ir_Check.j0 k true a0_0 a0_1 a0_2 l0_3) else (if a0_2 < a0_1 then (ir_Check.j0 k true a0_0 a0_1 a0_2 l0_3) else (if a0_2 > 64 then (ir_Check.j0 k true a0_0 a0_1 a0_2 l0_3) else (if (l0_3.length : Int) < 1 then (ir_Check.j0 k true a0_0 a0_1 a0_2 l0_3) else (ir_Check.j0 k (decide ((l0_3.length : Int) > 32)) a0_0 a0_1 a0_2 l0_3)))))) else (some 70))) = some r := h
 clear h
 replace H := Option.bind_eq_some_iff.mp H
 obtain ⟨t423, A20, H⟩ := H
 replace H : (if t423 = true then (if a0_1 < 0 then (ir_Check.j0 k true a0_0 a0_1 a0_2 l0_3) else (if a0_1 > 4 then (ir_Check.j0 k true a0_0 a0_1 a0_2 l0_3) else (if a0_2 < a0_1 then (ir_Check.j0 k true a0_0 a0_1 a0_2 l0_3) else (if a0_2 > 64 then (ir_Check.j0 k true a0_0 a0_1 a0_2 l0_3) else (if (l0_3.length : Int) < 1 then (ir_Check.j0 k true a0_0 a0_1 a0_2 l0_3) else (ir_Check.j0 k (decide ((l0_3.length : Int) > 32)) a0_0 a0_1 a0_2 l0_3)))))) else (some 70)) = some r := H
 have A2 := Aside0.mk A20
 clear A20
 by_cases c3 : t423 = true
 ·subst c3
  have H1 : (if a0_1 < 0 then (ir_Check.j0 k true a0_0 a0_1 a0_2 l0_3) else (if a0_1 > 4 then (ir_Check.j0 k true a0_0 a0_1 a0_2 l0_3) else (if a0_2 < a0_1 then (ir_Check.j0 k true a0_0 a0_1 a0_2 l0_3) else (if a0_2 > 64 then (ir_Check.j0 k true a0_0 a0_1 a0_2 l0_3) else (if (l0_3.length : Int) < 1 then (ir_Check.j0 k true a0_0 a0_1 a0_2 l0_3) else (ir_Check.j0 k (decide ((l0_3.length : Int) > 32)) a0_0 a0_1 a0_2 l0_3)))))) = some r := by rw [if_pos rfl] at H; exact H
  clear H
  have H := H1
  clear H1
  have HC4 := Aside0.mk H
  clear H
  go_enter Tryd.func27, Tryd.ntmps27
  go_upto_region 3 with (first | ((with_reducible refine gate_dst (N := 1) rfl ?_); (try (refine gate_guard (by rfl) ?_; dsimp only)); refine box_event ?hg (N := 1) ?hd (cs := #[.string a0_0, .int .i64 a0_1, .int .i64 a0_2, .slice A0_3 l0_3.length c0_3]) (t := 24) ?hr ?_; (case hd => rfl); (case hg => rfl); (case hr => first | (go_simp; done) | (go_simp; rfl)); intro gb422 hg w5 hbox hb; have n0_ := Aside0.mk (below_step (by repeat (first | (with_reducible first | exact HB.out | apply bA | apply bN | apply bD) | exact HB.out)) hb); have n1_ := Aside0.mk (hbox); have n2_ := Aside0.mk ((by rw [hg]; exact (below_size (by repeat (first | (with_reducible first | exact HB.out | apply bA | apply bN | apply bD) | exact HB.out))) : w.heap.size ≤ gb422)); have n3_ := Aside0.mk ((by rw [hg]; exact (below_size (by repeat (first | (with_reducible first | exact HB.out | apply bA | apply bN | apply bD) | exact HB.out))) : w.heap.size ≤ gb422)); clear HB; have HB := n0_; have BK422 := n1_; have GW422 := n2_; have GE422 := n3_; clear n0_ n1_ n2_ n3_; clear hb hbox hg; have hcz6_0 : w5.cell? ⟨gb422, 0, none⟩ = some (.string a0_0) := (bC BK422.out 0).trans rfl; have hcz6_1 : w5.cell? ⟨gb422, 1, none⟩ = some (.int .i64 a0_1) := (bC BK422.out 1).trans rfl; have hcz6_2 : w5.cell? ⟨gb422, 2, none⟩ = some (.int .i64 a0_2) := (bC BK422.out 2).trans rfl; have hcz6_3 : w5.cell? ⟨gb422, 3, none⟩ = some (.slice A0_3 l0_3.length c0_3) := (bC BK422.out 3).trans rfl; have hfz6_0 := bZ BK422.out 0; have hfz6_1 := bZ BK422.out 1; have hfz6_2 := bZ BK422.out 2; have hfz6_3 := bZ BK422.out 3) | ((with_reducible refine gate_callee (f := 63) rfl ?_); refine goesL_ (some 13) rfl rfl Tryd.func63 (by kernel_rfl) rfl #[.string a0_0] rfl (by (try simp only [List.map_toArray, List.map_cons, List.map_nil]); first | done | rfl | (simp only [List.length_drop, List.length_take]; rfl)) ?_; (with_reducible refine (ir_Name.calls a0_0 true _ A2.out).mono ?_); rintro e w7 ⟨rfl, hb⟩; refine ⟨_, rfl, ?_⟩; have n0_ := Aside0.mk (blk_below (g := gb422) (o := .cells #[.string a0_0, .int .i64 a0_1, .int .i64 a0_2, .slice A0_3 l0_3.length c0_3] 24 (0, 0)) (by (with_reducible repeat (first | refine kN ?_ _ | refine blk_drew ?_ | refine kA ?_ _)); exact BK422.out) hb); have n1_ := Aside0.mk (below_step (by repeat (first | (with_reducible first | exact HB.out | apply bA | apply bN | apply bD | refine bS ?_ GE422.out) | exact HB.out)) hb); clear BK422; clear HB; have BK422 := n0_; have HB := n1_; clear n0_ n1_; (try clear hb); (try clear hb2); (try clear hk); (try clear hi)))
  (try simp only [Act.put, List.setIfInBounds_toArray, List.set_cons_zero, List.set_cons_succ])
  go_cut [46] (fun v46 wc => ∃ (kq : Nat) (x46_3 : Bool), v46 = .bool x46_3 ∧ Aside0 (ir_Check.j0 kq x46_3 a0_0 a0_1 a0_2 l0_3 = some r) ∧ Aside0 (kq ≤ k) ∧ Aside0 (wc.heap[gb422]? = some (.cells #[.string a0_0, .int .i64 a0_1, .int .i64 a0_2, (.slice A0_3 l0_3.length c0_3)] 24 (0, 0))) ∧ Aside0 (Below w.heap.size w wc))
  case first =>
   have H := HC4.out
   clear HC4
   by_cases c8 : a0_1 < 0
   ·rw [if_pos c8] at H
    have c8b0 : decide (a0_1 < 0) = true := decide_eq_true c8
    clear c8
    (first | rw [c8b0] | (simp only [i64_w]; rw [c8b0]) | skip)
    have H' := Aside0.mk H
    clear H
    have hcz9_0 : w7.cell? ⟨gb422, 0, none⟩ = some (.string a0_0) := (bC BK422.out 0).trans rfl
    have hcz9_1 : w7.cell? ⟨gb422, 1, none⟩ = some (.int .i64 a0_1) := (bC BK422.out 1).trans rfl
    have hcz9_2 : w7.cell? ⟨gb422, 2, none⟩ = some (.int .i64 a0_2) := (bC BK422.out 2).trans rfl
    have hcz9_3 : w7.cell? ⟨gb422, 3, none⟩ = some (.slice A0_3 l0_3.length c0_3) := (bC BK422.out 3).trans rfl
    have hfz9_0 := bZ BK422.out 0
    have hfz9_1 := bZ BK422.out 1
    have hfz9_2 := bZ BK422.out 2
    have hfz9_3 := bZ BK422.out 3
    go_wp2
    go_meet
    case rel => exact ⟨_, (true), (by first | rfl | (simp; done) | (simp [*]; done)), H', ⟨by first | omega | exact Nat.le_refl _⟩, ⟨by (with_reducible repeat (first | refine kN ?_ _ | refine blk_drew ?_ | refine kA ?_ _)); exact BK422.out⟩, ⟨by repeat (first | (with_reducible first | exact HB.out | apply bA | apply bN | apply bD | refine bS ?_ GE422.out) | exact HB.out)⟩⟩
   ·rw [if_neg c8] at H
    have c8b0 : decide (a0_1 < 0) = false := decide_eq_false c8
    clear c8
    (first | rw [c8b0] | (simp only [i64_w]; rw [c8b0]) | skip)
    by_cases c10 : a0_1 > 4
    ·rw [if_pos c10] at H
     have c10b0 : decide (4 < a0_1) = true := decide_eq_true c10
     clear c10
     have H' := Aside0.mk H
     clear H
     have hcz11_0 : w7.cell? ⟨gb422, 0, none⟩ = some (.string a0_0) := (bC BK422.out 0).trans rfl
     have hcz11_1 : w7.cell? ⟨gb422, 1, none⟩ = some (.int .i64 a0_1) := (bC BK422.out 1).trans rfl
     have hcz11_2 : w7.cell? ⟨gb422, 2, none⟩ = some (.int .i64 a0_2) := (bC BK422.out 2).trans rfl
     have hcz11_3 : w7.cell? ⟨gb422, 3, none⟩ = some (.slice A0_3 l0_3.length c0_3) := (bC BK422.out 3).trans rfl
     have hfz11_0 := bZ BK422.out 0
     have hfz11_1 := bZ BK422.out 1
     have hfz11_2 := bZ BK422.out 2
     have hfz11_3 := bZ BK422.out 3
     go_wp2
     go_meet
     case rel => exact ⟨_, (true), (by first | rfl | (simp; done) | (simp [*]; done)), H', ⟨by first | omega | exact Nat.le_refl _⟩, ⟨by (with_reducible repeat (first | refine kN ?_ _ | refine blk_drew ?_ | refine kA ?_ _)); exact BK422.out⟩, ⟨by repeat (first | (with_reducible first | exact HB.out | apply bA | apply bN | apply bD | refine bS ?_ GE422.out) | exact HB.out)⟩⟩
    ·rw [if_neg c10] at H
     have c10b0 : decide (4 < a0_1) = false := decide_eq_false c10
     clear c10
     by_cases c12 : a0_2 < a0_1
     ·rw [if_pos c12] at H
      have c12b0 : decide (a0_2 < a0_1) = true := decide_eq_true c12
      clear c12
      have H' := Aside0.mk H
      clear H
      have hcz13_0 : w7.cell? ⟨gb422, 0, none⟩ = some (.string a0_0) := (bC BK422.out 0).trans rfl
      have hcz13_1 : w7.cell? ⟨gb422, 1, none⟩ = some (.int .i64 a0_1) := (bC BK422.out 1).trans rfl
      have hcz13_2 : w7.cell? ⟨gb422, 2, none⟩ = some (.int .i64 a0_2) := (bC BK422.out 2).trans rfl
      have hcz13_3 : w7.cell? ⟨gb422, 3, none⟩ = some (.slice A0_3 l0_3.length c0_3) := (bC BK422.out 3).trans rfl
      have hfz13_0 := bZ BK422.out 0
      have hfz13_1 := bZ BK422.out 1
      have hfz13_2 := bZ BK422.out 2
      have hfz13_3 := bZ BK422.out 3
      go_wp2
      go_meet
      case rel => exact ⟨_, (true), (by first | rfl | (simp; done) | (simp [*]; done)), H', ⟨by first | omega | exact Nat.le_refl _⟩, ⟨by (with_reducible repeat (first | refine kN ?_ _ | refine blk_drew ?_ | refine kA ?_ _)); exact BK422.out⟩, ⟨by repeat (first | (with_reducible first | exact HB.out | apply bA | apply bN | apply bD | refine bS ?_ GE422.out) | exact HB.out)⟩⟩
     ·rw [if_neg c12] at H
      have c12b0 : decide (a0_2 < a0_1) = false := decide_eq_false c12
      clear c12
      by_cases c14 : a0_2 > 64
      ·rw [if_pos c14] at H
       have c14b0 : decide (64 < a0_2) = true := decide_eq_true c14
       clear c14
       have H' := Aside0.mk H
       clear H
       have hcz15_0 : w7.cell? ⟨gb422, 0, none⟩ = some (.string a0_0) := (bC BK422.out 0).trans rfl
       have hcz15_1 : w7.cell? ⟨gb422, 1, none⟩ = some (.int .i64 a0_1) := (bC BK422.out 1).trans rfl
       have hcz15_2 : w7.cell? ⟨gb422, 2, none⟩ = some (.int .i64 a0_2) := (bC BK422.out 2).trans rfl
       have hcz15_3 : w7.cell? ⟨gb422, 3, none⟩ = some (.slice A0_3 l0_3.length c0_3) := (bC BK422.out 3).trans rfl
       have hfz15_0 := bZ BK422.out 0
       have hfz15_1 := bZ BK422.out 1
       have hfz15_2 := bZ BK422.out 2
       have hfz15_3 := bZ BK422.out 3
       go_wp2
       go_meet
       case rel => exact ⟨_, (true), (by first | rfl | (simp; done) | (simp [*]; done)), H', ⟨by first | omega | exact Nat.le_refl _⟩, ⟨by (with_reducible repeat (first | refine kN ?_ _ | refine blk_drew ?_ | refine kA ?_ _)); exact BK422.out⟩, ⟨by repeat (first | (with_reducible first | exact HB.out | apply bA | apply bN | apply bD | refine bS ?_ GE422.out) | exact HB.out)⟩⟩
      ·rw [if_neg c14] at H
       have c14b0 : decide (64 < a0_2) = false := decide_eq_false c14
       clear c14
       by_cases c16 : (l0_3.length : Int) < 1
       ·rw [if_pos c16] at H
        have c16b0 : decide ((l0_3.length : Int) < 1) = true := decide_eq_true c16
        have c16b1 : decide (l0_3.length < 1) = true := decide_eq_true (by omega)
        clear c16
        have H' := Aside0.mk H
        clear H
        have hcz17_0 : w7.cell? ⟨gb422, 0, none⟩ = some (.string a0_0) := (bC BK422.out 0).trans rfl
        have hcz17_1 : w7.cell? ⟨gb422, 1, none⟩ = some (.int .i64 a0_1) := (bC BK422.out 1).trans rfl
        have hcz17_2 : w7.cell? ⟨gb422, 2, none⟩ = some (.int .i64 a0_2) := (bC BK422.out 2).trans rfl
        have hcz17_3 : w7.cell? ⟨gb422, 3, none⟩ = some (.slice A0_3 l0_3.length c0_3) := (bC BK422.out 3).trans rfl
        have hfz17_0 := bZ BK422.out 0
        have hfz17_1 := bZ BK422.out 1
        have hfz17_2 := bZ BK422.out 2
        have hfz17_3 := bZ BK422.out 3
        go_wp2
        go_meet
        case rel => exact ⟨_, (true), (by first | rfl | (simp; done) | (simp [*]; done)), H', ⟨by first | omega | exact Nat.le_refl _⟩, ⟨by (with_reducible repeat (first | refine kN ?_ _ | refine blk_drew ?_ | refine kA ?_ _)); exact BK422.out⟩, ⟨by repeat (first | (with_reducible first | exact HB.out | apply bA | apply bN | apply bD | refine bS ?_ GE422.out) | exact HB.out)⟩⟩
       ·rw [if_neg c16] at H
        have c16b0 : decide ((l0_3.length : Int) < 1) = false := decide_eq_false c16
        have c16b1 : decide (l0_3.length < 1) = false := decide_eq_false (by omega)
        clear c16
        have H' := Aside0.mk H
        clear H
        have hcz18_0 : w7.cell? ⟨gb422, 0, none⟩ = some (.string a0_0) := (bC BK422.out 0).trans rfl
        have hcz18_1 : w7.cell? ⟨gb422, 1, none⟩ = some (.int .i64 a0_1) := (bC BK422.out 1).trans rfl
        have hcz18_2 : w7.cell? ⟨gb422, 2, none⟩ = some (.int .i64 a0_2) := (bC BK422.out 2).trans rfl
        have hcz18_3 : w7.cell? ⟨gb422, 3, none⟩ = some (.slice A0_3 l0_3.length c0_3) := (bC BK422.out 3).trans rfl
        have hfz18_0 := bZ BK422.out 0
        have hfz18_1 := bZ BK422.out 1
        have hfz18_2 := bZ BK422.out 2
        have hfz18_3 := bZ BK422.out 3
        go_wp2
        go_meet
        case rel => exact ⟨_, (decide ((l0_3.length : Int) > 32)), (by first | rfl | (simp; done) | (simp [*]; done)), H', ⟨by first | omega | exact Nat.le_refl _⟩, ⟨by (with_reducible repeat (first | refine kN ?_ _ | refine blk_drew ?_ | refine kA ?_ _)); exact BK422.out⟩, ⟨by repeat (first | (with_reducible first | exact HB.out | apply bA | apply bN | apply bD | refine bS ?_ GE422.out) | exact HB.out)⟩⟩
  case rest =>
   clear HC4
   try clear c1
   try clear c2
   try clear p2
   try clear c3
   try clear c6
   try clear c8
   try clear c8b0
   try clear c10
   try clear c10b0
   try clear c12
   try clear c12b0
   try clear c14
   try clear c14b0
   try clear c16
   try clear c16b0
   try clear c16b1
   try clear hcz11_0
   try clear hcz11_1
   try clear hcz11_2
   try clear hcz11_3
   try clear hcz13_0
   try clear hcz13_1
   try clear hcz13_2
   try clear hcz13_3
   try clear hcz15_0
   try clear hcz15_1
   try clear hcz15_2
   try clear hcz15_3
   try clear hcz17_0
   try clear hcz17_1
   try clear hcz17_2
   try clear hcz17_3
   try clear hcz18_0
   try clear hcz18_1
   try clear hcz18_2
   try clear hcz18_3
   try clear hcz6_0
   try clear hcz6_1
   try clear hcz6_2
   try clear hcz6_3
   try clear hcz9_0
   try clear hcz9_1
   try clear hcz9_2
   try clear hcz9_3
   try clear hfz11_0
   try clear hfz11_1
   try clear hfz11_2
   try clear hfz11_3
   try clear hfz13_0
   try clear hfz13_1
   try clear hfz13_2
   try clear hfz13_3
   try clear hfz15_0
   try clear hfz15_1
   try clear hfz15_2
   try clear hfz15_3
   try clear hfz17_0
   try clear hfz17_1
   try clear hfz17_2
   try clear hfz17_3
   try clear hfz18_0
   try clear hfz18_1
   try clear hfz18_2
   try clear hfz18_3
   try clear hfz6_0
   try clear hfz6_1
   try clear hfz6_2
   try clear hfz6_3
   try clear hfz9_0
   try clear hfz9_1
   try clear hfz9_2
   try clear hfz9_3
   obtain ⟨kq, x46_3, rfl, HA, HJ3, BK422, HB⟩ := hcut
   cases kq with
   | zero => exact absurd HA.out (by simp [ir_Check.j0])
   | succ kj3 =>
    have H := HA.out
    clear HA
    simp only [ir_Check.j0] at H
    by_cases c19 : x46_3 = true
    ·subst c19
     have H1 : (some 71) = some r := by rw [if_pos rfl] at H; exact H
     clear H
     have H := H1
     clear H1
     obtain rfl := Option.some.inj H
     go_wp2
     go_ret
     exact ⟨by first | rfl | (simp [errW_none, errW_some] <;> rfl) | (simp [*, errW_none, errW_some] <;> rfl), by repeat (first | (with_reducible first | exact HB.out | apply bA | apply bN | apply bD | refine bS ?_ GE422.out) | exact HB.out)⟩
    ·replace c19 := Bool.eq_false_iff.mpr c19
     subst c19
     have H1 : (ir_Check.l0 kj3 200 l0_3 (l0_3.length : Int) 0 a0_0 a0_1 a0_2 l0_3) = some r := by rw [if_neg (show ¬ (false = true) by decide)] at H; exact H
     clear H
     have H := H1
     clear H1
     have H' := Aside0.mk H
     clear H
     have hcz20_0 : wc.cell? ⟨gb422, 0, none⟩ = some (.string a0_0) := (bC BK422.out 0).trans rfl
     have hcz20_1 : wc.cell? ⟨gb422, 1, none⟩ = some (.int .i64 a0_1) := (bC BK422.out 1).trans rfl
     have hcz20_2 : wc.cell? ⟨gb422, 2, none⟩ = some (.int .i64 a0_2) := (bC BK422.out 2).trans rfl
     have hcz20_3 : wc.cell? ⟨gb422, 3, none⟩ = some (.slice A0_3 l0_3.length c0_3) := (bC BK422.out 3).trans rfl
     have hfz20_0 := bZ BK422.out 0
     have hfz20_1 := bZ BK422.out 1
     have hfz20_2 := bZ BK422.out 2
     have hfz20_3 := bZ BK422.out 3
     go_wp2
     go_loopg [3, 50] kj3 (fun kq v3 v50 w' => ∃ (x3_2 : Int) (x50_2 : Int), v3 = .int .i64 x3_2 ∧ v50 = .int .i64 x50_2 ∧ Aside0 (ir_Check.l0 kq x3_2 l0_3 (l0_3.length : Int) x50_2 a0_0 a0_1 a0_2 l0_3 = some r) ∧ Aside0 (kq ≤ kj3) ∧ Aside0 (w'.heap[gb422]? = some (.cells #[.string a0_0, .int .i64 a0_1, .int .i64 a0_2, (.slice A0_3 l0_3.length c0_3)] 24 (0, 0))) ∧ Aside0 (Below w.heap.size w w'))
     case atStart => exact ⟨(200), (0), (by first | rfl | (simp; done) | (simp [*]; done)), (by first | rfl | (simp; done) | (simp [*]; done)), H', ⟨Nat.le_refl _⟩, ⟨by (with_reducible repeat (first | refine kN ?_ _ | refine blk_drew ?_ | refine kA ?_ _)); exact BK422.out⟩, ⟨by repeat (first | (with_reducible first | exact HB.out | apply bA | apply bN | apply bD | refine bS ?_ GE422.out) | exact HB.out)⟩⟩
     case round =>
      clear H'
      try clear c1
      try clear c2
      try clear p2
      try clear c3
      try clear c6
      try clear c8
      try clear c8b0
      try clear c10
      try clear c10b0
      try clear c12
      try clear c12b0
      try clear c14
      try clear c14b0
      try clear c16
      try clear c16b0
      try clear c16b1
      try clear c19
      try clear hcz11_0
      try clear hcz11_1
      try clear hcz11_2
      try clear hcz11_3
      try clear hcz13_0
      try clear hcz13_1
      try clear hcz13_2
      try clear hcz13_3
      try clear hcz15_0
      try clear hcz15_1
      try clear hcz15_2
      try clear hcz15_3
      try clear hcz17_0
      try clear hcz17_1
      try clear hcz17_2
      try clear hcz17_3
      try clear hcz18_0
      try clear hcz18_1
      try clear hcz18_2
      try clear hcz18_3
      try clear hcz20_0
      try clear hcz20_1
      try clear hcz20_2
      try clear hcz20_3
      try clear hcz6_0
      try clear hcz6_1
      try clear hcz6_2
      try clear hcz6_3
      try clear hcz9_0
      try clear hcz9_1
      try clear hcz9_2
      try clear hcz9_3
      try clear hfz11_0
      try clear hfz11_1
      try clear hfz11_2
      try clear hfz11_3
      try clear hfz13_0
      try clear hfz13_1
      try clear hfz13_2
      try clear hfz13_3
      try clear hfz15_0
      try clear hfz15_1
      try clear hfz15_2
      try clear hfz15_3
      try clear hfz17_0
      try clear hfz17_1
      try clear hfz17_2
      try clear hfz17_3
      try clear hfz18_0
      try clear hfz18_1
      try clear hfz18_2
      try clear hfz18_3
      try clear hfz20_0
      try clear hfz20_1
      try clear hfz20_2
      try clear hfz20_3
      try clear hfz6_0
      try clear hfz6_1
      try clear hfz6_2
      try clear hfz6_3
      try clear hfz9_0
      try clear hfz9_1
      try clear hfz9_2
      try clear hfz9_3
      try clear p2
      obtain ⟨x3_2, x50_2, rfl, rfl, HA, HK2, BK422, HB⟩ := hrel
      cases gk with
      | zero => exact absurd HA.out (by simp [ir_Check.l0])
      | succ k2 =>
       have H := HA.out
       clear HA
       simp only [ir_Check.l0] at H
       by_cases c21 : x50_2 < (l0_3.length : Int)
       ·rw [if_pos c21] at H
        have c21b0 : decide (x50_2 < (l0_3.length : Int)) = true := decide_eq_true c21
        clear c21
        by_cases c22 : 0 ≤ x50_2
        ·rw [if_pos c22] at H
         have c22b0 : decide (0 ≤ x50_2) = true := decide_eq_true c22
         clear c22
         by_cases c23 : x50_2 < (l0_3.length : Int)
         ·rw [if_pos c23] at H
          have c23b0 : decide (x50_2 < (l0_3.length : Int)) = true := decide_eq_true c23
          clear c23
          by_cases c24 : ((rd_LT32 l0_3 x50_2).length : Int) = 0
          ·rw [if_pos c24] at H
           have c24b0 : (((rd_LT32 l0_3 x50_2).length : Int) == 0) = true := beq_iff_eq.mpr c24
           have c24b1 : (((rd_LT32 l0_3 x50_2).length : Int) != 0) = false := bne_eq_false_iff_eq.mpr c24
           clear c24
           obtain rfl := Option.some.inj H
           have p424 : 0 ≤ (x50_2 : Int) := oD (by first | (with_reducible assumption) | assumption)
           have q424 : x50_2 < (l0_3.length : Int) := oD (by first | (with_reducible assumption) | assumption)
           obtain ⟨ad424, A424_0, c424_0, e424, hx424_0, hl424_0, hi424_0⟩ := at_LT32 HR0_3.out x50_2 p424 q424
           cases e424
           (try replace hx424_0 := (HB.out.cell (lC w _ hx424_0)).trans hx424_0)
           have HR424_0 := Aside0.mk hi424_0
           have HC424_0 := Aside0.mk hl424_0
           clear hi424_0 hl424_0
           replace p424 := eq_true p424
           replace q424 := eq_true q424
           go_wp2
           go_ret
           exact ⟨by first | rfl | (simp [errW_none, errW_some] <;> rfl) | (simp [*, errW_none, errW_some] <;> rfl), by repeat (first | (with_reducible first | exact HB.out | apply bA | apply bN | apply bD | refine bS ?_ GE422.out) | exact HB.out)⟩
          ·rw [if_neg c24] at H
           have c24b0 : (((rd_LT32 l0_3 x50_2).length : Int) == 0) = false := beq_eq_false_iff_ne.mpr c24
           have c24b1 : (((rd_LT32 l0_3 x50_2).length : Int) != 0) = true := bne_iff_ne.mpr c24
           have c24b2 : ¬ ((rd_LT32 l0_3 x50_2) = []) := fun h_ => c24 (by rw [h_]; rfl)
           by_cases c25 : ((rd_LT32 l0_3 x50_2).length : Int) > x3_2
           ·rw [if_pos c25] at H
            have c25b0 : decide (x3_2 < ((rd_LT32 l0_3 x50_2).length : Int)) = true := decide_eq_true c25
            clear c25
            obtain rfl := Option.some.inj H
            have p424 : 0 ≤ (x50_2 : Int) := oD (by first | (with_reducible assumption) | assumption)
            have q424 : x50_2 < (l0_3.length : Int) := oD (by first | (with_reducible assumption) | assumption)
            obtain ⟨ad424, A424_0, c424_0, e424, hx424_0, hl424_0, hi424_0⟩ := at_LT32 HR0_3.out x50_2 p424 q424
            cases e424
            (try replace hx424_0 := (HB.out.cell (lC w _ hx424_0)).trans hx424_0)
            have HR424_0 := Aside0.mk hi424_0
            have HC424_0 := Aside0.mk hl424_0
            clear hi424_0 hl424_0
            replace p424 := eq_true p424
            replace q424 := eq_true q424
            go_wp2
            go_ret
            exact ⟨by first | rfl | (simp [errW_none, errW_some] <;> rfl) | (simp [*, errW_none, errW_some] <;> rfl), by repeat (first | (with_reducible first | exact HB.out | apply bA | apply bN | apply bD | refine bS ?_ GE422.out) | exact HB.out)⟩
           ·rw [if_neg c25] at H
            have c25b0 : decide (x3_2 < ((rd_LT32 l0_3 x50_2).length : Int)) = false := decide_eq_false c25
            clear c25
            have H' := Aside0.mk H
            clear H
            have p424 : 0 ≤ (x50_2 : Int) := oD (by first | (with_reducible assumption) | assumption)
            have q424 : x50_2 < (l0_3.length : Int) := oD (by first | (with_reducible assumption) | assumption)
            obtain ⟨ad424, A424_0, c424_0, e424, hx424_0, hl424_0, hi424_0⟩ := at_LT32 HR0_3.out x50_2 p424 q424
            cases e424
            (try replace hx424_0 := (HB.out.cell (lC w _ hx424_0)).trans hx424_0)
            have HR424_0 := Aside0.mk hi424_0
            have HC424_0 := Aside0.mk hl424_0
            clear hi424_0 hl424_0
            replace p424 := eq_true p424
            replace q424 := eq_true q424
            go_wp2
            go_roundg k2
            case measure => have := HJ3.out; have := HK2.out; omega
            case rel => exact ⟨(wrap64 (x3_2 - ((rd_LT32 l0_3 x50_2).length : Int))), (wrap64 (x50_2 + 1)), (by first | rfl | (simp; done) | (simp [*]; done)), (by first | rfl | (simp; done) | (simp [*]; done)), H', ⟨by have := HJ3.out; have := HK2.out; omega⟩, ⟨by (with_reducible repeat (first | refine kN ?_ _ | refine blk_drew ?_ | refine kA ?_ _)); exact BK422.out⟩, ⟨by repeat (first | (with_reducible first | exact HB.out | apply bA | apply bN | apply bD | refine bS ?_ GE422.out) | exact HB.out)⟩⟩
         ·rw [if_neg c23] at H
          exact absurd H (by simp)
        ·rw [if_neg c22] at H
         exact absurd H (by simp)
       ·rw [if_neg c21] at H
        have c21b0 : decide (x50_2 < (l0_3.length : Int)) = false := decide_eq_false c21
        clear c21
        have H' := Aside0.mk H
        clear H
        have hcz26_0 : wr.cell? ⟨gb422, 0, none⟩ = some (.string a0_0) := (bC BK422.out 0).trans rfl
        have hcz26_1 : wr.cell? ⟨gb422, 1, none⟩ = some (.int .i64 a0_1) := (bC BK422.out 1).trans rfl
        have hcz26_2 : wr.cell? ⟨gb422, 2, none⟩ = some (.int .i64 a0_2) := (bC BK422.out 2).trans rfl
        have hcz26_3 : wr.cell? ⟨gb422, 3, none⟩ = some (.slice A0_3 l0_3.length c0_3) := (bC BK422.out 3).trans rfl
        have hfz26_0 := bZ BK422.out 0
        have hfz26_1 := bZ BK422.out 1
        have hfz26_2 := bZ BK422.out 2
        have hfz26_3 := bZ BK422.out 3
        go_wp2
        go_loopg [71] k2 (fun kq v71 w' => ∃ (x71_3 : Int), v71 = .int .i64 x71_3 ∧ Aside0 (ir_Check.l1 kq l0_3 (l0_3.length : Int) x71_3 a0_0 a0_1 a0_2 l0_3 = some r) ∧ Aside0 (kq ≤ k2) ∧ Aside0 (w'.heap[gb422]? = some (.cells #[.string a0_0, .int .i64 a0_1, .int .i64 a0_2, (.slice A0_3 l0_3.length c0_3)] 24 (0, 0))) ∧ Aside0 (Below w.heap.size w w'))
        case atStart => exact ⟨(0), (by first | rfl | (simp; done) | (simp [*]; done)), H', ⟨Nat.le_refl _⟩, ⟨by (with_reducible repeat (first | refine kN ?_ _ | refine blk_drew ?_ | refine kA ?_ _)); exact BK422.out⟩, ⟨by repeat (first | (with_reducible first | exact HB.out | apply bA | apply bN | apply bD | refine bS ?_ GE422.out) | exact HB.out)⟩⟩
        case round =>
         clear H'
         try clear c1
         try clear c2
         try clear p2
         try clear c3
         try clear c4
         try clear p4
         try clear q4
         try clear hx4
         try clear c6
         try clear p6
         try clear c8
         try clear c8b0
         try clear c10
         try clear c10b0
         try clear c12
         try clear c12b0
         try clear c14
         try clear c14b0
         try clear c16
         try clear c16b0
         try clear c16b1
         try clear c19
         try clear c21
         try clear c21b0
         try clear c22
         try clear c22b0
         try clear c23
         try clear c23b0
         try clear c24
         try clear c24b0
         try clear c24b1
         try clear c24b2
         try clear c25
         try clear c25b0
         try clear hcz11_0
         try clear hcz11_1
         try clear hcz11_2
         try clear hcz11_3
         try clear hcz13_0
         try clear hcz13_1
         try clear hcz13_2
         try clear hcz13_3
         try clear hcz15_0
         try clear hcz15_1
         try clear hcz15_2
         try clear hcz15_3
         try clear hcz17_0
         try clear hcz17_1
         try clear hcz17_2
         try clear hcz17_3
         try clear hcz18_0
         try clear hcz18_1
         try clear hcz18_2
         try clear hcz18_3
         try clear hcz20_0
         try clear hcz20_1
         try clear hcz20_2
         try clear hcz20_3
         try clear hcz26_0
         try clear hcz26_1
         try clear hcz26_2
         try clear hcz26_3
         try clear hcz6_0
         try clear hcz6_1
         try clear hcz6_2
         try clear hcz6_3
         try clear hcz9_0
         try clear hcz9_1
         try clear hcz9_2
         try clear hcz9_3
         try clear hfz11_0
         try clear hfz11_1
         try clear hfz11_2
         try clear hfz11_3
         try clear hfz13_0
         try clear hfz13_1
         try clear hfz13_2
         try clear hfz13_3
         try clear hfz15_0
         try clear hfz15_1
         try clear hfz15_2
         try clear hfz15_3
         try clear hfz17_0
         try clear hfz17_1
         try clear hfz17_2
         try clear hfz17_3
         try clear hfz18_0
         try clear hfz18_1
         try clear hfz18_2
         try clear hfz18_3
         try clear hfz20_0
         try clear hfz20_1
         try clear hfz20_2
         try clear hfz20_3
         try clear hfz26_0
         try clear hfz26_1
         try clear hfz26_2
         try clear hfz26_3
         try clear hfz6_0
         try clear hfz6_1
         try clear hfz6_2
         try clear hfz6_3
         try clear hfz9_0
         try clear hfz9_1
         try clear hfz9_2
         try clear hfz9_3
         try clear hx424_0
         try clear p2
         try clear p424
         try clear q424
         obtain ⟨x71_3, rfl, HA, HK3, BK422, HB⟩ := hrel
         cases gk with
         | zero => exact absurd HA.out (by simp [ir_Check.l1])
         | succ k3 =>
          have H := HA.out
          clear HA
          simp only [ir_Check.l1] at H
          by_cases c27 : x71_3 < (l0_3.length : Int)
          ·rw [if_pos c27] at H
           have c27b0 : decide (x71_3 < (l0_3.length : Int)) = true := decide_eq_true c27
           clear c27
           by_cases c28 : 0 ≤ x71_3
           ·rw [if_pos c28] at H
            have c28b0 : decide (0 ≤ x71_3) = true := decide_eq_true c28
            clear c28
            by_cases c29 : x71_3 < (l0_3.length : Int)
            ·rw [if_pos c29] at H
             have c29b0 : decide (x71_3 < (l0_3.length : Int)) = true := decide_eq_true c29
             clear c29
             have H' := Aside0.mk H
             clear H
             have p425 : 0 ≤ (x71_3 : Int) := oD (by first | (with_reducible assumption) | assumption)
             have q425 : x71_3 < (l0_3.length : Int) := oD (by first | (with_reducible assumption) | assumption)
             obtain ⟨ad425, A425_0, c425_0, e425, hx425_0, hl425_0, hi425_0⟩ := at_LT32 HR0_3.out x71_3 p425 q425
             cases e425
             (try replace hx425_0 := (HB.out.cell (lC w _ hx425_0)).trans hx425_0)
             have HR425_0 := Aside0.mk hi425_0
             have HC425_0 := Aside0.mk hl425_0
             clear hi425_0 hl425_0
             replace p425 := eq_true p425
             replace q425 := eq_true q425
             go_wp2
             go_loopg [77] k3 (fun kq v77 w' => ∃ (x77_4 : Int), v77 = .int .i64 x77_4 ∧ Aside0 (ir_Check.l2 kq (rd_LT32 l0_3 x71_3) l0_3 (l0_3.length : Int) x71_3 (rd_LT32 l0_3 x71_3) ((rd_LT32 l0_3 x71_3).length : Int) x77_4 a0_0 a0_1 a0_2 l0_3 = some r) ∧ Aside0 (kq ≤ k3) ∧ Aside0 (w'.heap[gb422]? = some (.cells #[.string a0_0, .int .i64 a0_1, .int .i64 a0_2, (.slice (some ad425) l0_3.length c0_3)] 24 (0, 0))) ∧ Aside0 (Below w.heap.size w w'))
             case atStart => exact ⟨(0), (by first | rfl | (simp; done) | (simp [*]; done)), H', ⟨Nat.le_refl _⟩, ⟨by (with_reducible repeat (first | refine kN ?_ _ | refine blk_drew ?_ | refine kA ?_ _)); exact BK422.out⟩, ⟨by repeat (first | (with_reducible first | exact HB.out | apply bA | apply bN | apply bD | refine bS ?_ GE422.out) | exact HB.out)⟩⟩
             case round =>
              clear H'
              try clear c1
              try clear c2
              try clear p2
              try clear c3
              try clear c4
              try clear p4
              try clear q4
              try clear hx4
              try clear c6
              try clear p6
              try clear c8
              try clear c8b0
              try clear c10
              try clear c10b0
              try clear c12
              try clear c12b0
              try clear c14
              try clear c14b0
              try clear c16
              try clear c16b0
              try clear c16b1
              try clear c19
              try clear c21
              try clear c21b0
              try clear c22
              try clear c22b0
              try clear c23
              try clear c23b0
              try clear c24
              try clear c24b0
              try clear c24b1
              try clear c24b2
              try clear c25
              try clear c25b0
              try clear c27
              try clear c27b0
              try clear c28
              try clear c28b0
              try clear c29
              try clear c29b0
              try clear hcz11_0
              try clear hcz11_1
              try clear hcz11_2
              try clear hcz11_3
              try clear hcz13_0
              try clear hcz13_1
              try clear hcz13_2
              try clear hcz13_3
              try clear hcz15_0
              try clear hcz15_1
              try clear hcz15_2
              try clear hcz15_3
              try clear hcz17_0
              try clear hcz17_1
              try clear hcz17_2
              try clear hcz17_3
              try clear hcz18_0
              try clear hcz18_1
              try clear hcz18_2
              try clear hcz18_3
              try clear hcz20_0
              try clear hcz20_1
              try clear hcz20_2
              try clear hcz20_3
              try clear hcz26_0
              try clear hcz26_1
              try clear hcz26_2
              try clear hcz26_3
              try clear hcz6_0
              try clear hcz6_1
              try clear hcz6_2
              try clear hcz6_3
              try clear hcz9_0
              try clear hcz9_1
              try clear hcz9_2
              try clear hcz9_3
              try clear hfz11_0
              try clear hfz11_1
              try clear hfz11_2
              try clear hfz11_3
              try clear hfz13_0
              try clear hfz13_1
              try clear hfz13_2
              try clear hfz13_3
              try clear hfz15_0
              try clear hfz15_1
              try clear hfz15_2
              try clear hfz15_3
              try clear hfz17_0
              try clear hfz17_1
              try clear hfz17_2
              try clear hfz17_3
              try clear hfz18_0
              try clear hfz18_1
              try clear hfz18_2
              try clear hfz18_3
              try clear hfz20_0
              try clear hfz20_1
              try clear hfz20_2
              try clear hfz20_3
              try clear hfz26_0
              try clear hfz26_1
              try clear hfz26_2
              try clear hfz26_3
              try clear hfz6_0
              try clear hfz6_1
              try clear hfz6_2
              try clear hfz6_3
              try clear hfz9_0
              try clear hfz9_1
              try clear hfz9_2
              try clear hfz9_3
              try clear hx424_0
              try clear hx425_0
              try clear p2
              try clear p4
              try clear p424
              try clear p425
              try clear p6
              try clear q4
              try clear q424
              try clear q425
              obtain ⟨x77_4, rfl, HA, HK4, BK422, HB⟩ := hrel
              cases gk with
              | zero => exact absurd HA.out (by simp [ir_Check.l2])
              | succ k4 =>
               have H := HA.out
               clear HA
               simp only [ir_Check.l2] at H
               by_cases c30 : x77_4 < ((rd_LT32 l0_3 x71_3).length : Int)
               ·rw [if_pos c30] at H
                have c30b0 : decide (x77_4 < ((rd_LT32 l0_3 x71_3).length : Int)) = true := decide_eq_true c30
                clear c30
                by_cases c31 : 0 ≤ x77_4
                ·rw [if_pos c31] at H
                 have c31b0 : decide (0 ≤ x77_4) = true := decide_eq_true c31
                 clear c31
                 by_cases c32 : x77_4 < ((rd_LT32 l0_3 x71_3).length : Int)
                 ·rw [if_pos c32] at H
                  have c32b0 : decide (x77_4 < ((rd_LT32 l0_3 x71_3).length : Int)) = true := decide_eq_true c32
                  clear c32
                  replace H := Option.bind_eq_some_iff.mp H
                  obtain ⟨t428, A330, H⟩ := H
                  replace H : (if t428 = 0 then (ir_Check.l2 k4 (rd_LT32 l0_3 x71_3) l0_3 (l0_3.length : Int) x71_3 (rd_LT32 l0_3 x71_3) ((rd_LT32 l0_3 x71_3).length : Int) (wrap64 (x77_4 + 1)) a0_0 a0_1 a0_2 l0_3) else (some t428)) = some r := H
                  have A33 := Aside0.mk A330
                  clear A330
                  by_cases c34 : t428 = 0
                  ·rw [if_pos c34] at H
                   have c34b0 : (t428 == 0) = true := beq_iff_eq.mpr c34
                   have c34b1 : (t428 != 0) = false := bne_eq_false_iff_eq.mpr c34
                   clear c34
                   have H' := Aside0.mk H
                   clear H
                   have p426 : 0 ≤ (x77_4 : Int) := oD (by first | (with_reducible assumption) | assumption)
                   have q426 : x77_4 < ((rd_LT32 l0_3 x71_3).length : Int) := oD (by first | (with_reducible assumption) | assumption)
                   obtain ⟨ad426, A426_5, c426_5, e426, hx426_0, hx426_1, hx426_2, hx426_3, hx426_4, hx426_5, hl426_5, hi426_5⟩ := at_T32 HR425_0.out x77_4 p426 q426
                   cases e426
                   (try replace hx426_0 := (HB.out.cell (lC w _ hx426_0)).trans hx426_0)
                   (try replace hx426_1 := (HB.out.cell (lC w _ hx426_1)).trans hx426_1)
                   (try replace hx426_2 := (HB.out.cell (lC w _ hx426_2)).trans hx426_2)
                   (try replace hx426_3 := (HB.out.cell (lC w _ hx426_3)).trans hx426_3)
                   (try replace hx426_4 := (HB.out.cell (lC w _ hx426_4)).trans hx426_4)
                   (try replace hx426_5 := (HB.out.cell (lC w _ hx426_5)).trans hx426_5)
                   have HR426_5 := Aside0.mk hi426_5
                   have HC426_5 := Aside0.mk hl426_5
                   clear hi426_5 hl426_5
                   replace p426 := eq_true p426
                   replace q426 := eq_true q426
                   go_wp2_with (first | ((with_reducible refine gate_dst (N := 9) rfl ?_); (try (refine gate_guard (by rfl) ?_; dsimp only)); refine box_event ?hg (N := 9) ?hd (cs := #[.int .i64 0, .int .i64 0, .int .i64 0, .int .i64 0, .string (⟨#[]⟩ : ByteArray), .slice none 0 0]) (t := 32) ?hr ?_; (case hd => rfl); (case hg => rfl); (case hr => first | (go_simp; done) | (go_simp; rfl)); intro gb427 hg w35 hbox hb; have n0_ := Aside0.mk (blk_below (g := gb422) (o := .cells #[.string a0_0, .int .i64 a0_1, .int .i64 a0_2, .slice (some ad425) l0_3.length c0_3] 24 (0, 0)) (by (with_reducible repeat (first | refine kN ?_ _ | refine blk_drew ?_ | refine kA ?_ _)); exact BK422.out) hb); have n1_ := Aside0.mk (below_step (by repeat (first | (with_reducible first | exact HB.out | apply bA | apply bN | apply bD | refine bS ?_ GE422.out) | exact HB.out)) hb); have n2_ := Aside0.mk (hbox); have n3_ := Aside0.mk ((by rw [hg]; exact (below_size (by repeat (first | (with_reducible first | exact HB.out | apply bA | apply bN | apply bD | refine bS ?_ GE422.out) | exact HB.out))) : w.heap.size ≤ gb427)); have n4_ := Aside0.mk ((by rw [hg]; exact (below_size (by repeat (first | (with_reducible first | exact HB.out | apply bA | apply bN | apply bD | refine bS ?_ GE422.out) | exact HB.out))) : w.heap.size ≤ gb427)); have n5_ := Aside0.mk ((by rw [hg]; exact Nat.ne_of_lt (blk_lt (g := gb422) (o := .cells #[.string a0_0, .int .i64 a0_1, .int .i64 a0_2, .slice (some ad425) l0_3.length c0_3] 24 (0, 0)) (by (with_reducible repeat (first | refine kN ?_ _ | refine blk_drew ?_ | refine kA ?_ _)); exact BK422.out)) : gb422 ≠ gb427)); have n6_ := Aside0.mk ((by rw [hg]; exact Nat.ne_of_gt (blk_lt (g := gb422) (o := .cells #[.string a0_0, .int .i64 a0_1, .int .i64 a0_2, .slice (some ad425) l0_3.length c0_3] 24 (0, 0)) (by (with_reducible repeat (first | refine kN ?_ _ | refine blk_drew ?_ | refine kA ?_ _)); exact BK422.out)) : gb427 ≠ gb422)); clear BK422; clear HB; have BK422 := n0_; have HB := n1_; have BK427 := n2_; have GW427 := n3_; have GE427 := n4_; have NB422_427 := n5_; have NB427_422 := n6_; clear n0_ n1_ n2_ n3_ n4_ n5_ n6_; clear hb hbox hg; have hnb36 := NB427_422.out; have hnc36 := NB422_427.out; have hcz37_0 : w35.cell? ⟨gb427, 0, none⟩ = some (.int .i64 0) := (bC BK427.out 0).trans rfl; have hcz37_1 : w35.cell? ⟨gb427, 1, none⟩ = some (.int .i64 0) := (bC BK427.out 1).trans rfl; have hcz37_2 : w35.cell? ⟨gb427, 2, none⟩ = some (.int .i64 0) := (bC BK427.out 2).trans rfl; have hcz37_3 : w35.cell? ⟨gb427, 3, none⟩ = some (.int .i64 0) := (bC BK427.out 3).trans rfl; have hcz37_4 : w35.cell? ⟨gb427, 4, none⟩ = some (.string (⟨#[]⟩ : ByteArray)) := (bC BK427.out 4).trans rfl; have hcz37_5 : w35.cell? ⟨gb427, 5, none⟩ = some (.slice none 0 0) := (bC BK427.out 5).trans rfl; have hfz37_0 := bZ BK427.out 0; have hfz37_1 := bZ BK427.out 1; have hfz37_2 := bZ BK427.out 2; have hfz37_3 := bZ BK427.out 3; have hfz37_4 := bZ BK427.out 4; have hfz37_5 := bZ BK427.out 5; have hcz38_0 : w35.cell? ⟨gb422, 0, none⟩ = some (.string a0_0) := (bC BK422.out 0).trans rfl; have hcz38_1 : w35.cell? ⟨gb422, 1, none⟩ = some (.int .i64 a0_1) := (bC BK422.out 1).trans rfl; have hcz38_2 : w35.cell? ⟨gb422, 2, none⟩ = some (.int .i64 a0_2) := (bC BK422.out 2).trans rfl; have hcz38_3 : w35.cell? ⟨gb422, 3, none⟩ = some (.slice (some ad425) l0_3.length c0_3) := (bC BK422.out 3).trans rfl; have hfz38_0 := bZ BK422.out 0; have hfz38_1 := bZ BK422.out 1; have hfz38_2 := bZ BK422.out 2; have hfz38_3 := bZ BK422.out 3) | ((with_reducible refine gate_callee (f := 64) rfl ?_); refine goesL_ (some 89) rfl rfl Tryd.func64 (by kernel_rfl) rfl #[.agg #[.string a0_0, .int .i64 a0_1, .int .i64 a0_2, .slice (some ad425) l0_3.length c0_3], .agg #[.int .i64 ((rd_T32 (rd_LT32 l0_3 x71_3) x77_4).f0), .int .i64 ((rd_T32 (rd_LT32 l0_3 x71_3) x77_4).f1), .int .i64 ((rd_T32 (rd_LT32 l0_3 x71_3) x77_4).f2), .int .i64 ((rd_T32 (rd_LT32 l0_3 x71_3) x77_4).f3), .string ((rd_T32 (rd_LT32 l0_3 x71_3) x77_4).f4), .slice A426_5 ((rd_T32 (rd_LT32 l0_3 x71_3) x77_4).f5).length c426_5], .bool (x77_4 == (wrap64 (((rd_LT32 l0_3 x71_3).length : Int) - 1)))] rfl (by (try simp only [List.map_toArray, List.map_cons, List.map_nil]); first | done | rfl | (simp only [List.length_drop, List.length_take]; rfl)) ?_; (with_reducible refine (ir_one.calls k4 a0_0 a0_1 a0_2 _ _ l0_3 ((rd_T32 (rd_LT32 l0_3 x71_3) x77_4).f0) ((rd_T32 (rd_LT32 l0_3 x71_3) x77_4).f1) ((rd_T32 (rd_LT32 l0_3 x71_3) x77_4).f2) ((rd_T32 (rd_LT32 l0_3 x71_3) x77_4).f3) ((rd_T32 (rd_LT32 l0_3 x71_3) x77_4).f4) _ _ ((rd_T32 (rd_LT32 l0_3 x71_3) x77_4).f5) (x77_4 == (wrap64 (((rd_LT32 l0_3 x71_3).length : Int) - 1))) t428 _ ?side5 ?side1 ?side2 ?side3 ?side4 A33.out).mono ?_); (case side1 => exact Kd.C_below HR0_3.out (by repeat (first | (with_reducible first | exact HB.out | apply bA | apply bN | apply bD | refine bS ?_ GE422.out | refine bS ?_ GE427.out) | exact HB.out))); (case side2 => exact HC0_3.out); (case side3 => exact Kd.C_below HR426_5.out (by repeat (first | (with_reducible first | exact HB.out | apply bA | apply bN | apply bD | refine bS ?_ GE422.out | refine bS ?_ GE427.out) | exact HB.out))); (case side4 => exact HC426_5.out); (case side5 => first | exact GS.of_below HGS.out (by repeat (first | (with_reducible first | exact HB.out | apply bA | apply bN | apply bD | refine bS ?_ GE422.out | refine bS ?_ GE427.out) | exact HB.out)) | (repeat (first | exact HGS.out | apply GS.alloc | apply GS.drewN | apply GS.drew))); rintro e w39 ⟨rfl, hb⟩; refine ⟨_, rfl, ?_⟩; have n0_ := Aside0.mk (blk_below (g := gb422) (o := .cells #[.string a0_0, .int .i64 a0_1, .int .i64 a0_2, .slice (some ad425) l0_3.length c0_3] 24 (0, 0)) (by (with_reducible repeat (first | refine kN ?_ _ | refine blk_drew ?_ | refine kA ?_ _)); refine blk_far ?_ NB422_427.out _; (with_reducible repeat (first | refine kN ?_ _ | refine blk_drew ?_ | refine kA ?_ _)); refine blk_far ?_ NB422_427.out _; (with_reducible repeat (first | refine kN ?_ _ | refine blk_drew ?_ | refine kA ?_ _)); refine blk_far ?_ NB422_427.out _; (with_reducible repeat (first | refine kN ?_ _ | refine blk_drew ?_ | refine kA ?_ _)); refine blk_far ?_ NB422_427.out _; (with_reducible repeat (first | refine kN ?_ _ | refine blk_drew ?_ | refine kA ?_ _)); refine blk_far ?_ NB422_427.out _; (with_reducible repeat (first | refine kN ?_ _ | refine blk_drew ?_ | refine kA ?_ _)); refine blk_far ?_ NB422_427.out _; (with_reducible repeat (first | refine kN ?_ _ | refine blk_drew ?_ | refine kA ?_ _)); exact BK422.out) hb); have n1_ := Aside0.mk (blk_below (g := gb427) (o := .cells #[.int .i64 ((rd_T32 (rd_LT32 l0_3 x71_3) x77_4).f0), .int .i64 ((rd_T32 (rd_LT32 l0_3 x71_3) x77_4).f1), .int .i64 ((rd_T32 (rd_LT32 l0_3 x71_3) x77_4).f2), .int .i64 ((rd_T32 (rd_LT32 l0_3 x71_3) x77_4).f3), .string ((rd_T32 (rd_LT32 l0_3 x71_3) x77_4).f4), .slice A426_5 ((rd_T32 (rd_LT32 l0_3 x71_3) x77_4).f5).length c426_5] 32 (0, 0)) (by (with_reducible repeat (first | refine kN ?_ _ | refine blk_drew ?_ | refine kA ?_ _)); refine blk_put (cs := #[.int .i64 ((rd_T32 (rd_LT32 l0_3 x71_3) x77_4).f0), .int .i64 ((rd_T32 (rd_LT32 l0_3 x71_3) x77_4).f1), .int .i64 ((rd_T32 (rd_LT32 l0_3 x71_3) x77_4).f2), .int .i64 ((rd_T32 (rd_LT32 l0_3 x71_3) x77_4).f3), .string ((rd_T32 (rd_LT32 l0_3 x71_3) x77_4).f4), .slice none 0 0]) ?_ 5 _ rfl; (with_reducible repeat (first | refine kN ?_ _ | refine blk_drew ?_ | refine kA ?_ _)); refine blk_put (cs := #[.int .i64 ((rd_T32 (rd_LT32 l0_3 x71_3) x77_4).f0), .int .i64 ((rd_T32 (rd_LT32 l0_3 x71_3) x77_4).f1), .int .i64 ((rd_T32 (rd_LT32 l0_3 x71_3) x77_4).f2), .int .i64 ((rd_T32 (rd_LT32 l0_3 x71_3) x77_4).f3), .string (⟨#[]⟩ : ByteArray), .slice none 0 0]) ?_ 4 _ rfl; (with_reducible repeat (first | refine kN ?_ _ | refine blk_drew ?_ | refine kA ?_ _)); refine blk_put (cs := #[.int .i64 ((rd_T32 (rd_LT32 l0_3 x71_3) x77_4).f0), .int .i64 ((rd_T32 (rd_LT32 l0_3 x71_3) x77_4).f1), .int .i64 ((rd_T32 (rd_LT32 l0_3 x71_3) x77_4).f2), .int .i64 0, .string (⟨#[]⟩ : ByteArray), .slice none 0 0]) ?_ 3 _ rfl; (with_reducible repeat (first | refine kN ?_ _ | refine blk_drew ?_ | refine kA ?_ _)); refine blk_put (cs := #[.int .i64 ((rd_T32 (rd_LT32 l0_3 x71_3) x77_4).f0), .int .i64 ((rd_T32 (rd_LT32 l0_3 x71_3) x77_4).f1), .int .i64 0, .int .i64 0, .string (⟨#[]⟩ : ByteArray), .slice none 0 0]) ?_ 2 _ rfl; (with_reducible repeat (first | refine kN ?_ _ | refine blk_drew ?_ | refine kA ?_ _)); refine blk_put (cs := #[.int .i64 ((rd_T32 (rd_LT32 l0_3 x71_3) x77_4).f0), .int .i64 0, .int .i64 0, .int .i64 0, .string (⟨#[]⟩ : ByteArray), .slice none 0 0]) ?_ 1 _ rfl; (with_reducible repeat (first | refine kN ?_ _ | refine blk_drew ?_ | refine kA ?_ _)); refine blk_put (cs := #[.int .i64 0, .int .i64 0, .int .i64 0, .int .i64 0, .string (⟨#[]⟩ : ByteArray), .slice none 0 0]) ?_ 0 _ rfl; (with_reducible repeat (first | refine kN ?_ _ | refine blk_drew ?_ | refine kA ?_ _)); exact BK427.out) hb); have n2_ := Aside0.mk (below_step (by repeat (first | (with_reducible first | exact HB.out | apply bA | apply bN | apply bD | refine bS ?_ GE422.out | refine bS ?_ GE427.out) | exact HB.out)) hb); clear BK422; clear BK427; clear HB; have BK422 := n0_; have BK427 := n1_; have HB := n2_; clear n0_ n1_ n2_; (try clear hb); (try clear hb2); (try clear hk); (try clear hi)))
                   go_roundg k4
                   case measure => have := HJ3.out; have := HK2.out; have := HK3.out; have := HK4.out; omega
                   case rel => exact ⟨(wrap64 (x77_4 + 1)), (by first | rfl | (simp; done) | (simp [*]; done)), H', ⟨by have := HJ3.out; have := HK2.out; have := HK3.out; have := HK4.out; omega⟩, ⟨by (with_reducible repeat (first | refine kN ?_ _ | refine blk_drew ?_ | refine kA ?_ _)); exact BK422.out⟩, ⟨by repeat (first | (with_reducible first | exact HB.out | apply bA | apply bN | apply bD | refine bS ?_ GE422.out | refine bS ?_ GE427.out) | exact HB.out)⟩⟩
                  ·rw [if_neg c34] at H
                   have c34b0 : (t428 == 0) = false := beq_eq_false_iff_ne.mpr c34
                   have c34b1 : (t428 != 0) = true := bne_iff_ne.mpr c34
                   obtain rfl := Option.some.inj H
                   have p426 : 0 ≤ (x77_4 : Int) := oD (by first | (with_reducible assumption) | assumption)
                   have q426 : x77_4 < ((rd_LT32 l0_3 x71_3).length : Int) := oD (by first | (with_reducible assumption) | assumption)
                   obtain ⟨ad426, A426_5, c426_5, e426, hx426_0, hx426_1, hx426_2, hx426_3, hx426_4, hx426_5, hl426_5, hi426_5⟩ := at_T32 HR425_0.out x77_4 p426 q426
                   cases e426
                   (try replace hx426_0 := (HB.out.cell (lC w _ hx426_0)).trans hx426_0)
                   (try replace hx426_1 := (HB.out.cell (lC w _ hx426_1)).trans hx426_1)
                   (try replace hx426_2 := (HB.out.cell (lC w _ hx426_2)).trans hx426_2)
                   (try replace hx426_3 := (HB.out.cell (lC w _ hx426_3)).trans hx426_3)
                   (try replace hx426_4 := (HB.out.cell (lC w _ hx426_4)).trans hx426_4)
                   (try replace hx426_5 := (HB.out.cell (lC w _ hx426_5)).trans hx426_5)
                   have HR426_5 := Aside0.mk hi426_5
                   have HC426_5 := Aside0.mk hl426_5
                   clear hi426_5 hl426_5
                   replace p426 := eq_true p426
                   replace q426 := eq_true q426
                   go_wp2_with (first | ((with_reducible refine gate_dst (N := 9) rfl ?_); (try (refine gate_guard (by rfl) ?_; dsimp only)); refine box_event ?hg (N := 9) ?hd (cs := #[.int .i64 0, .int .i64 0, .int .i64 0, .int .i64 0, .string (⟨#[]⟩ : ByteArray), .slice none 0 0]) (t := 32) ?hr ?_; (case hd => rfl); (case hg => rfl); (case hr => first | (go_simp; done) | (go_simp; rfl)); intro gb427 hg w40 hbox hb; have n0_ := Aside0.mk (blk_below (g := gb422) (o := .cells #[.string a0_0, .int .i64 a0_1, .int .i64 a0_2, .slice (some ad425) l0_3.length c0_3] 24 (0, 0)) (by (with_reducible repeat (first | refine kN ?_ _ | refine blk_drew ?_ | refine kA ?_ _)); exact BK422.out) hb); have n1_ := Aside0.mk (below_step (by repeat (first | (with_reducible first | exact HB.out | apply bA | apply bN | apply bD | refine bS ?_ GE422.out) | exact HB.out)) hb); have n2_ := Aside0.mk (hbox); have n3_ := Aside0.mk ((by rw [hg]; exact (below_size (by repeat (first | (with_reducible first | exact HB.out | apply bA | apply bN | apply bD | refine bS ?_ GE422.out) | exact HB.out))) : w.heap.size ≤ gb427)); have n4_ := Aside0.mk ((by rw [hg]; exact (below_size (by repeat (first | (with_reducible first | exact HB.out | apply bA | apply bN | apply bD | refine bS ?_ GE422.out) | exact HB.out))) : w.heap.size ≤ gb427)); have n5_ := Aside0.mk ((by rw [hg]; exact Nat.ne_of_lt (blk_lt (g := gb422) (o := .cells #[.string a0_0, .int .i64 a0_1, .int .i64 a0_2, .slice (some ad425) l0_3.length c0_3] 24 (0, 0)) (by (with_reducible repeat (first | refine kN ?_ _ | refine blk_drew ?_ | refine kA ?_ _)); exact BK422.out)) : gb422 ≠ gb427)); have n6_ := Aside0.mk ((by rw [hg]; exact Nat.ne_of_gt (blk_lt (g := gb422) (o := .cells #[.string a0_0, .int .i64 a0_1, .int .i64 a0_2, .slice (some ad425) l0_3.length c0_3] 24 (0, 0)) (by (with_reducible repeat (first | refine kN ?_ _ | refine blk_drew ?_ | refine kA ?_ _)); exact BK422.out)) : gb427 ≠ gb422)); clear BK422; clear HB; have BK422 := n0_; have HB := n1_; have BK427 := n2_; have GW427 := n3_; have GE427 := n4_; have NB422_427 := n5_; have NB427_422 := n6_; clear n0_ n1_ n2_ n3_ n4_ n5_ n6_; clear hb hbox hg; have hnb41 := NB427_422.out; have hnc41 := NB422_427.out; have hcz42_0 : w40.cell? ⟨gb427, 0, none⟩ = some (.int .i64 0) := (bC BK427.out 0).trans rfl; have hcz42_1 : w40.cell? ⟨gb427, 1, none⟩ = some (.int .i64 0) := (bC BK427.out 1).trans rfl; have hcz42_2 : w40.cell? ⟨gb427, 2, none⟩ = some (.int .i64 0) := (bC BK427.out 2).trans rfl; have hcz42_3 : w40.cell? ⟨gb427, 3, none⟩ = some (.int .i64 0) := (bC BK427.out 3).trans rfl; have hcz42_4 : w40.cell? ⟨gb427, 4, none⟩ = some (.string (⟨#[]⟩ : ByteArray)) := (bC BK427.out 4).trans rfl; have hcz42_5 : w40.cell? ⟨gb427, 5, none⟩ = some (.slice none 0 0) := (bC BK427.out 5).trans rfl; have hfz42_0 := bZ BK427.out 0; have hfz42_1 := bZ BK427.out 1; have hfz42_2 := bZ BK427.out 2; have hfz42_3 := bZ BK427.out 3; have hfz42_4 := bZ BK427.out 4; have hfz42_5 := bZ BK427.out 5; have hcz43_0 : w40.cell? ⟨gb422, 0, none⟩ = some (.string a0_0) := (bC BK422.out 0).trans rfl; have hcz43_1 : w40.cell? ⟨gb422, 1, none⟩ = some (.int .i64 a0_1) := (bC BK422.out 1).trans rfl; have hcz43_2 : w40.cell? ⟨gb422, 2, none⟩ = some (.int .i64 a0_2) := (bC BK422.out 2).trans rfl; have hcz43_3 : w40.cell? ⟨gb422, 3, none⟩ = some (.slice (some ad425) l0_3.length c0_3) := (bC BK422.out 3).trans rfl; have hfz43_0 := bZ BK422.out 0; have hfz43_1 := bZ BK422.out 1; have hfz43_2 := bZ BK422.out 2; have hfz43_3 := bZ BK422.out 3) | ((with_reducible refine gate_callee (f := 64) rfl ?_); refine goesL_ (some 89) rfl rfl Tryd.func64 (by kernel_rfl) rfl #[.agg #[.string a0_0, .int .i64 a0_1, .int .i64 a0_2, .slice (some ad425) l0_3.length c0_3], .agg #[.int .i64 ((rd_T32 (rd_LT32 l0_3 x71_3) x77_4).f0), .int .i64 ((rd_T32 (rd_LT32 l0_3 x71_3) x77_4).f1), .int .i64 ((rd_T32 (rd_LT32 l0_3 x71_3) x77_4).f2), .int .i64 ((rd_T32 (rd_LT32 l0_3 x71_3) x77_4).f3), .string ((rd_T32 (rd_LT32 l0_3 x71_3) x77_4).f4), .slice A426_5 ((rd_T32 (rd_LT32 l0_3 x71_3) x77_4).f5).length c426_5], .bool (x77_4 == (wrap64 (((rd_LT32 l0_3 x71_3).length : Int) - 1)))] rfl (by (try simp only [List.map_toArray, List.map_cons, List.map_nil]); first | done | rfl | (simp only [List.length_drop, List.length_take]; rfl)) ?_; (with_reducible refine (ir_one.calls k4 a0_0 a0_1 a0_2 _ _ l0_3 ((rd_T32 (rd_LT32 l0_3 x71_3) x77_4).f0) ((rd_T32 (rd_LT32 l0_3 x71_3) x77_4).f1) ((rd_T32 (rd_LT32 l0_3 x71_3) x77_4).f2) ((rd_T32 (rd_LT32 l0_3 x71_3) x77_4).f3) ((rd_T32 (rd_LT32 l0_3 x71_3) x77_4).f4) _ _ ((rd_T32 (rd_LT32 l0_3 x71_3) x77_4).f5) (x77_4 == (wrap64 (((rd_LT32 l0_3 x71_3).length : Int) - 1))) t428 _ ?side5 ?side1 ?side2 ?side3 ?side4 A33.out).mono ?_); (case side1 => exact Kd.C_below HR0_3.out (by repeat (first | (with_reducible first | exact HB.out | apply bA | apply bN | apply bD | refine bS ?_ GE422.out | refine bS ?_ GE427.out) | exact HB.out))); (case side2 => exact HC0_3.out); (case side3 => exact Kd.C_below HR426_5.out (by repeat (first | (with_reducible first | exact HB.out | apply bA | apply bN | apply bD | refine bS ?_ GE422.out | refine bS ?_ GE427.out) | exact HB.out))); (case side4 => exact HC426_5.out); (case side5 => first | exact GS.of_below HGS.out (by repeat (first | (with_reducible first | exact HB.out | apply bA | apply bN | apply bD | refine bS ?_ GE422.out | refine bS ?_ GE427.out) | exact HB.out)) | (repeat (first | exact HGS.out | apply GS.alloc | apply GS.drewN | apply GS.drew))); rintro e w44 ⟨rfl, hb⟩; refine ⟨_, rfl, ?_⟩; have n0_ := Aside0.mk (blk_below (g := gb422) (o := .cells #[.string a0_0, .int .i64 a0_1, .int .i64 a0_2, .slice (some ad425) l0_3.length c0_3] 24 (0, 0)) (by (with_reducible repeat (first | refine kN ?_ _ | refine blk_drew ?_ | refine kA ?_ _)); refine blk_far ?_ NB422_427.out _; (with_reducible repeat (first | refine kN ?_ _ | refine blk_drew ?_ | refine kA ?_ _)); refine blk_far ?_ NB422_427.out _; (with_reducible repeat (first | refine kN ?_ _ | refine blk_drew ?_ | refine kA ?_ _)); refine blk_far ?_ NB422_427.out _; (with_reducible repeat (first | refine kN ?_ _ | refine blk_drew ?_ | refine kA ?_ _)); refine blk_far ?_ NB422_427.out _; (with_reducible repeat (first | refine kN ?_ _ | refine blk_drew ?_ | refine kA ?_ _)); refine blk_far ?_ NB422_427.out _; (with_reducible repeat (first | refine kN ?_ _ | refine blk_drew ?_ | refine kA ?_ _)); refine blk_far ?_ NB422_427.out _; (with_reducible repeat (first | refine kN ?_ _ | refine blk_drew ?_ | refine kA ?_ _)); exact BK422.out) hb); have n1_ := Aside0.mk (blk_below (g := gb427) (o := .cells #[.int .i64 ((rd_T32 (rd_LT32 l0_3 x71_3) x77_4).f0), .int .i64 ((rd_T32 (rd_LT32 l0_3 x71_3) x77_4).f1), .int .i64 ((rd_T32 (rd_LT32 l0_3 x71_3) x77_4).f2), .int .i64 ((rd_T32 (rd_LT32 l0_3 x71_3) x77_4).f3), .string ((rd_T32 (rd_LT32 l0_3 x71_3) x77_4).f4), .slice A426_5 ((rd_T32 (rd_LT32 l0_3 x71_3) x77_4).f5).length c426_5] 32 (0, 0)) (by (with_reducible repeat (first | refine kN ?_ _ | refine blk_drew ?_ | refine kA ?_ _)); refine blk_put (cs := #[.int .i64 ((rd_T32 (rd_LT32 l0_3 x71_3) x77_4).f0), .int .i64 ((rd_T32 (rd_LT32 l0_3 x71_3) x77_4).f1), .int .i64 ((rd_T32 (rd_LT32 l0_3 x71_3) x77_4).f2), .int .i64 ((rd_T32 (rd_LT32 l0_3 x71_3) x77_4).f3), .string ((rd_T32 (rd_LT32 l0_3 x71_3) x77_4).f4), .slice none 0 0]) ?_ 5 _ rfl; (with_reducible repeat (first | refine kN ?_ _ | refine blk_drew ?_ | refine kA ?_ _)); refine blk_put (cs := #[.int .i64 ((rd_T32 (rd_LT32 l0_3 x71_3) x77_4).f0), .int .i64 ((rd_T32 (rd_LT32 l0_3 x71_3) x77_4).f1), .int .i64 ((rd_T32 (rd_LT32 l0_3 x71_3) x77_4).f2), .int .i64 ((rd_T32 (rd_LT32 l0_3 x71_3) x77_4).f3), .string (⟨#[]⟩ : ByteArray), .slice none 0 0]) ?_ 4 _ rfl; (with_reducible repeat (first | refine kN ?_ _ | refine blk_drew ?_ | refine kA ?_ _)); refine blk_put (cs := #[.int .i64 ((rd_T32 (rd_LT32 l0_3 x71_3) x77_4).f0), .int .i64 ((rd_T32 (rd_LT32 l0_3 x71_3) x77_4).f1), .int .i64 ((rd_T32 (rd_LT32 l0_3 x71_3) x77_4).f2), .int .i64 0, .string (⟨#[]⟩ : ByteArray), .slice none 0 0]) ?_ 3 _ rfl; (with_reducible repeat (first | refine kN ?_ _ | refine blk_drew ?_ | refine kA ?_ _)); refine blk_put (cs := #[.int .i64 ((rd_T32 (rd_LT32 l0_3 x71_3) x77_4).f0), .int .i64 ((rd_T32 (rd_LT32 l0_3 x71_3) x77_4).f1), .int .i64 0, .int .i64 0, .string (⟨#[]⟩ : ByteArray), .slice none 0 0]) ?_ 2 _ rfl; (with_reducible repeat (first | refine kN ?_ _ | refine blk_drew ?_ | refine kA ?_ _)); refine blk_put (cs := #[.int .i64 ((rd_T32 (rd_LT32 l0_3 x71_3) x77_4).f0), .int .i64 0, .int .i64 0, .int .i64 0, .string (⟨#[]⟩ : ByteArray), .slice none 0 0]) ?_ 1 _ rfl; (with_reducible repeat (first | refine kN ?_ _ | refine blk_drew ?_ | refine kA ?_ _)); refine blk_put (cs := #[.int .i64 0, .int .i64 0, .int .i64 0, .int .i64 0, .string (⟨#[]⟩ : ByteArray), .slice none 0 0]) ?_ 0 _ rfl; (with_reducible repeat (first | refine kN ?_ _ | refine blk_drew ?_ | refine kA ?_ _)); exact BK427.out) hb); have n2_ := Aside0.mk (below_step (by repeat (first | (with_reducible first | exact HB.out | apply bA | apply bN | apply bD | refine bS ?_ GE422.out | refine bS ?_ GE427.out) | exact HB.out)) hb); clear BK422; clear BK427; clear HB; have BK422 := n0_; have BK427 := n1_; have HB := n2_; clear n0_ n1_ n2_; (try clear hb); (try clear hb2); (try clear hk); (try clear hi)))
                   go_ret
                   exact ⟨by first | rfl | (simp [errW_none, errW_some] <;> rfl) | (simp [*, errW_none, errW_some] <;> rfl), by repeat (first | (with_reducible first | exact HB.out | apply bA | apply bN | apply bD | refine bS ?_ GE422.out | refine bS ?_ GE427.out) | exact HB.out)⟩
                 ·rw [if_neg c32] at H
                  exact absurd H (by simp)
                ·rw [if_neg c31] at H
                 exact absurd H (by simp)
               ·rw [if_neg c30] at H
                have c30b0 : decide (x77_4 < ((rd_LT32 l0_3 x71_3).length : Int)) = false := decide_eq_false c30
                clear c30
                have H' := Aside0.mk H
                clear H
                go_wp2
                go_roundg k4
                case measure => have := HJ3.out; have := HK2.out; have := HK3.out; have := HK4.out; omega
                case rel => exact ⟨(wrap64 (x71_3 + 1)), (by first | rfl | (simp; done) | (simp [*]; done)), H', ⟨by have := HJ3.out; have := HK2.out; have := HK3.out; have := HK4.out; omega⟩, ⟨by (with_reducible repeat (first | refine kN ?_ _ | refine blk_drew ?_ | refine kA ?_ _)); exact BK422.out⟩, ⟨by repeat (first | (with_reducible first | exact HB.out | apply bA | apply bN | apply bD | refine bS ?_ GE422.out) | exact HB.out)⟩⟩
            ·rw [if_neg c29] at H
             exact absurd H (by simp)
           ·rw [if_neg c28] at H
            exact absurd H (by simp)
          ·rw [if_neg c27] at H
           have c27b0 : decide (x71_3 < (l0_3.length : Int)) = false := decide_eq_false c27
           clear c27
           obtain rfl := Option.some.inj H
           go_wp2
           go_ret
           exact ⟨by first | rfl | (simp [errW_none, errW_some] <;> rfl) | (simp [*, errW_none, errW_some] <;> rfl), by repeat (first | (with_reducible first | exact HB.out | apply bA | apply bN | apply bD | refine bS ?_ GE422.out) | exact HB.out)⟩
 ·replace c3 := Bool.eq_false_iff.mpr c3
  subst c3
  have H1 : (some 70) = some r := by rw [if_neg (show ¬ (false = true) by decide)] at H; exact H
  clear H
  have H := H1
  clear H1
  obtain rfl := Option.some.inj H
  go_enter Tryd.func27, Tryd.ntmps27
  go_wp2_with (first | ((with_reducible refine gate_dst (N := 1) rfl ?_); (try (refine gate_guard (by rfl) ?_; dsimp only)); refine box_event ?hg (N := 1) ?hd (cs := #[.string a0_0, .int .i64 a0_1, .int .i64 a0_2, .slice A0_3 l0_3.length c0_3]) (t := 24) ?hr ?_; (case hd => rfl); (case hg => rfl); (case hr => first | (go_simp; done) | (go_simp; rfl)); intro gb422 hg w45 hbox hb; have n0_ := Aside0.mk (below_step (by repeat (first | (with_reducible first | exact HB.out | apply bA | apply bN | apply bD) | exact HB.out)) hb); have n1_ := Aside0.mk (hbox); have n2_ := Aside0.mk ((by rw [hg]; exact (below_size (by repeat (first | (with_reducible first | exact HB.out | apply bA | apply bN | apply bD) | exact HB.out))) : w.heap.size ≤ gb422)); have n3_ := Aside0.mk ((by rw [hg]; exact (below_size (by repeat (first | (with_reducible first | exact HB.out | apply bA | apply bN | apply bD) | exact HB.out))) : w.heap.size ≤ gb422)); clear HB; have HB := n0_; have BK422 := n1_; have GW422 := n2_; have GE422 := n3_; clear n0_ n1_ n2_ n3_; clear hb hbox hg; have hcz46_0 : w45.cell? ⟨gb422, 0, none⟩ = some (.string a0_0) := (bC BK422.out 0).trans rfl; have hcz46_1 : w45.cell? ⟨gb422, 1, none⟩ = some (.int .i64 a0_1) := (bC BK422.out 1).trans rfl; have hcz46_2 : w45.cell? ⟨gb422, 2, none⟩ = some (.int .i64 a0_2) := (bC BK422.out 2).trans rfl; have hcz46_3 : w45.cell? ⟨gb422, 3, none⟩ = some (.slice A0_3 l0_3.length c0_3) := (bC BK422.out 3).trans rfl; have hfz46_0 := bZ BK422.out 0; have hfz46_1 := bZ BK422.out 1; have hfz46_2 := bZ BK422.out 2; have hfz46_3 := bZ BK422.out 3) | ((with_reducible refine gate_callee (f := 63) rfl ?_); refine goesL_ (some 13) rfl rfl Tryd.func63 (by kernel_rfl) rfl #[.string a0_0] rfl (by (try simp only [List.map_toArray, List.map_cons, List.map_nil]); first | done | rfl | (simp only [List.length_drop, List.length_take]; rfl)) ?_; (with_reducible refine (ir_Name.calls a0_0 false _ A2.out).mono ?_); rintro e w47 ⟨rfl, hb⟩; refine ⟨_, rfl, ?_⟩; have n0_ := Aside0.mk (blk_below (g := gb422) (o := .cells #[.string a0_0, .int .i64 a0_1, .int .i64 a0_2, .slice A0_3 l0_3.length c0_3] 24 (0, 0)) (by (with_reducible repeat (first | refine kN ?_ _ | refine blk_drew ?_ | refine kA ?_ _)); exact BK422.out) hb); have n1_ := Aside0.mk (below_step (by repeat (first | (with_reducible first | exact HB.out | apply bA | apply bN | apply bD | refine bS ?_ GE422.out) | exact HB.out)) hb); clear BK422; clear HB; have BK422 := n0_; have HB := n1_; clear n0_ n1_; (try clear hb); (try clear hb2); (try clear hk); (try clear hi)))
  go_ret
  exact ⟨by first | rfl | (simp [errW_none, errW_some] <;> rfl) | (simp [*, errW_none, errW_some] <;> rfl), by repeat (first | (with_reducible first | exact HB.out | apply bA | apply bN | apply bD | refine bS ?_ GE422.out) | exact HB.out)⟩
end Go.Proofs.YtoilapjkgligfaaDoor.P
namespace Go.Proofs.YtoilapjkgligfaaDoor.P
open Go.RowKit Go.Proofs.YtoilapjkgligfaaDoorW.PrintWords Go.Proofs.YtoilapjkgligfaaDoorW.PrintLast Go.Proofs.YtoilapjkgligfaaDoorW.PrintMore
attribute [local go_sem] max2_int min2_int max_two min_two max_three min_three max_four min_four 
set_option linter.unusedVariables false
set_option linter.unusedSimpArgs false
def slices_Index_int_int.l0 : Nat → List Int → Int → Int → Int → Option (Int)
 | 0, _, _, _, _ => none
 | k + 1, x0, x1, x7, x8 => if x8 < x7 then (if 0 ≤ x8 then (if x8 < (x0.length : Int) then (if x1 = (rd x0 x8) then (some x8) else (slices_Index_int_int.l0 k x0 x1 x7 (wrap64 (x8 + 1)))) else (none)) else (none)) else (some (-1))
def slices_Index_int_int.f (k : Nat) (l0 : List Int) (a1 : Int) : Option (Int) := slices_Index_int_int.l0 k l0 a1 (l0.length : Int) 0
set_option maxHeartbeats 8000000 in
set_option maxRecDepth 100000 in
theorem slices_Index_int_int.calls (k : Nat) (A0 : Option Addr) (c0 : Nat) (l0 : List Int) (a1 : Int) (r : Int) (w : World) (hr0 : Kd.C (Kd.int .i64) w A0 l0.length l0) (hc0 : l0.length ≤ c0) (h : slices_Index_int_int.f k l0 a1 = some r) :
  Calls Tryd.prog 56 #[.slice A0 l0.length c0, .int .i64 a1] w fun e w' => e = .returned (.int .i64 r) ∧ Drawn0 w w' := by
 have HR0 := Aside0.mk hr0
 have HC0 := Aside0.mk hc0
 clear hr0 hc0
 have H : (slices_Index_int_int.l0 k l0 a1 (l0.length : Int) 0) = some r := h
 clear h
 have H' := Aside0.mk H
 clear H
 go_enter Tryd.func56, Tryd.ntmps56
 go_wp2
 go_loopg [8] k (fun kq v8 w' => ∃ (x8_1 : Int), v8 = .int .i64 x8_1 ∧ Aside0 (slices_Index_int_int.l0 kq l0 a1 (l0.length : Int) x8_1 = some r) ∧ Aside0 (kq ≤ k) ∧ Drawn0 w w')
 case atStart => exact ⟨(0), (by first | rfl | (simp; done) | (simp [*]; done)), H', ⟨Nat.le_refl _⟩, by repeat (first | exact Drawn0.refl _ | apply Drawn0.step)⟩
 case round =>
  clear H'
  try clear p2
  obtain ⟨x8_1, rfl, HA, HK1, ⟨m1, rfl⟩⟩ := hrel
  cases gk with
  | zero => exact absurd HA.out (by simp [slices_Index_int_int.l0])
  | succ k1 =>
   have H := HA.out
   clear HA
   simp only [slices_Index_int_int.l0] at H
   by_cases c3 : x8_1 < (l0.length : Int)
   ·rw [if_pos c3] at H
    have c3b0 : decide (x8_1 < (l0.length : Int)) = true := decide_eq_true c3
    clear c3
    by_cases c4 : 0 ≤ x8_1
    ·rw [if_pos c4] at H
     have c4b0 : decide (0 ≤ x8_1) = true := decide_eq_true c4
     clear c4
     by_cases c5 : x8_1 < (l0.length : Int)
     ·rw [if_pos c5] at H
      have c5b0 : decide (x8_1 < (l0.length : Int)) = true := decide_eq_true c5
      clear c5
      by_cases c6 : a1 = (rd l0 x8_1)
      ·rw [if_pos c6] at H
       have c6b0 : (a1 == (rd l0 x8_1)) = true := beq_iff_eq.mpr c6
       have c6b1 : (a1 != (rd l0 x8_1)) = false := bne_eq_false_iff_eq.mpr c6
       clear c6
       obtain rfl := Option.some.inj H
       have p484 : 0 ≤ (x8_1 : Int) := oD (by first | (with_reducible assumption) | assumption)
       have q484 : x8_1 < (l0.length : Int) := oD (by first | (with_reducible assumption) | assumption)
       obtain ⟨ad484, e484, hx484_0⟩ := Kd.at_int HR0.out x8_1 p484 q484
       cases e484
       replace p484 := eq_true p484
       replace q484 := eq_true q484
       go_wp2
       go_ret
       exact ⟨by first | rfl | (simp; done) | (simp [*]; done), by repeat (first | exact Drawn0.refl _ | apply Drawn0.step)⟩
      ·rw [if_neg c6] at H
       have c6b0 : (a1 == (rd l0 x8_1)) = false := beq_eq_false_iff_ne.mpr c6
       have c6b1 : (a1 != (rd l0 x8_1)) = true := bne_iff_ne.mpr c6
       have H' := Aside0.mk H
       clear H
       have p484 : 0 ≤ (x8_1 : Int) := oD (by first | (with_reducible assumption) | assumption)
       have q484 : x8_1 < (l0.length : Int) := oD (by first | (with_reducible assumption) | assumption)
       obtain ⟨ad484, e484, hx484_0⟩ := Kd.at_int HR0.out x8_1 p484 q484
       cases e484
       replace p484 := eq_true p484
       replace q484 := eq_true q484
       go_wp2
       go_roundg k1
       case measure => have := HK1.out; omega
       case rel => exact ⟨(wrap64 (x8_1 + 1)), (by first | rfl | (simp; done) | (simp [*]; done)), H', ⟨by have := HK1.out; omega⟩, by repeat (first | exact Drawn0.refl _ | apply Drawn0.step)⟩
     ·rw [if_neg c5] at H
      exact absurd H (by simp)
    ·rw [if_neg c4] at H
     exact absurd H (by simp)
   ·rw [if_neg c3] at H
    have c3b0 : decide (x8_1 < (l0.length : Int)) = false := decide_eq_false c3
    clear c3
    obtain rfl := Option.some.inj H
    go_wp2
    go_ret
    exact ⟨by first | rfl | (simp; done) | (simp [*]; done), by repeat (first | exact Drawn0.refl _ | apply Drawn0.step)⟩
end Go.Proofs.YtoilapjkgligfaaDoor.P
namespace Go.Proofs.YtoilapjkgligfaaDoor.P
open Go.RowKit Go.Proofs.YtoilapjkgligfaaDoorW.PrintWords Go.Proofs.YtoilapjkgligfaaDoorW.PrintLast Go.Proofs.YtoilapjkgligfaaDoorW.PrintMore
attribute [local go_sem] max2_int min2_int max_two min_two max_three min_three max_four min_four 
set_option linter.unusedVariables false
set_option linter.unusedSimpArgs false
def slices_Contains_int_int.f (k : Nat) (l0 : List Int) (a1 : Int) : Option (Bool) := (slices_Index_int_int.f k l0 a1).bind fun t485 => (some (decide (t485 ≥ 0)))
set_option maxHeartbeats 8000000 in
set_option maxRecDepth 100000 in
theorem slices_Contains_int_int.calls (k : Nat) (A0 : Option Addr) (c0 : Nat) (l0 : List Int) (a1 : Int) (r : Bool) (w : World) (hr0 : Kd.C (Kd.int .i64) w A0 l0.length l0) (hc0 : l0.length ≤ c0) (h : slices_Contains_int_int.f k l0 a1 = some r) :
  Calls Tryd.prog 125 #[.slice A0 l0.length c0, .int .i64 a1] w fun e w' => e = .returned (.bool r) ∧ Drawn0 w w' := by
 have HR0 := Aside0.mk hr0
 have HC0 := Aside0.mk hc0
 clear hr0 hc0
 have H : ((slices_Index_int_int.f k l0 a1).bind fun t485 => (some (decide (t485 ≥ 0)))) = some r := h
 clear h
 replace H := Option.bind_eq_some_iff.mp H
 obtain ⟨t485, A30, H⟩ := H
 replace H : (some (decide (t485 ≥ 0))) = some r := H
 have A3 := Aside0.mk A30
 clear A30
 obtain rfl := Option.some.inj H
 go_enter Tryd.func125, Tryd.ntmps125
 go_wp2_with (first | ((with_reducible refine gate_callee (f := 56) rfl ?_); refine goesL_ (some 7) rfl rfl Tryd.func56 (by kernel_rfl) rfl #[.slice A0 l0.length c0, .int .i64 a1] rfl (by (try simp only [List.map_toArray, List.map_cons, List.map_nil]); first | done | rfl | (simp only [List.length_drop, List.length_take]; rfl)) ?_; (with_reducible refine (slices_Index_int_int.calls k _ _ l0 a1 t485 _ ?side1 ?side2 A3.out).mono ?_); (case side1 => repeat (first | exact HR0.out | (with_reducible refine Kd.C_alloc ?_ _) | (with_reducible refine Kd.C_drewN ?_ _) | (with_reducible refine Kd.C_drew ?_))); (case side2 => exact HC0.out); rintro e w' ⟨rfl, ⟨nd, rfl⟩⟩; refine ⟨_, rfl, ?_⟩; (try clear A3)))
 go_ret
 exact ⟨by first | rfl | (simp; done) | (simp [*]; done), by repeat (first | exact Drawn0.refl _ | apply Drawn0.step)⟩
end Go.Proofs.YtoilapjkgligfaaDoor.P
namespace Go.Proofs.YtoilapjkgligfaaDoor.P
open Go.RowKit Go.Proofs.YtoilapjkgligfaaDoorW.PrintWords Go.Proofs.YtoilapjkgligfaaDoorW.PrintLast Go.Proofs.YtoilapjkgligfaaDoorW.PrintMore
attribute [local go_sem] max2_int min2_int max_two min_two max_three min_three max_four min_four 
set_option linter.unusedVariables false
set_option linter.unusedSimpArgs false
mutual
def flow_Succs.j0 : Nat → List (List (S32)) → Int → Bool → Option (List Int)
 | 0, _, _, _ => none
 | k + 1, x0, x1, x24 => if x24 = true then (some ([] : List Int)) else (if 0 ≤ x1 then (if x1 < (x0.length : Int) then (if 0 ≤ (wrap64 (((rd_LT32 x0 x1).length : Int) - 1)) then (if (wrap64 (((rd_LT32 x0 x1).length : Int) - 1)) < ((rd_LT32 x0 x1).length : Int) then ((ir_Targets.f ((rd_T32 (rd_LT32 x0 x1) (wrap64 (((rd_LT32 x0 x1).length : Int) - 1))).f0) ((rd_T32 (rd_LT32 x0 x1) (wrap64 (((rd_LT32 x0 x1).length : Int) - 1))).f1) ((rd_T32 (rd_LT32 x0 x1) (wrap64 (((rd_LT32 x0 x1).length : Int) - 1))).f2) ((rd_T32 (rd_LT32 x0 x1) (wrap64 (((rd_LT32 x0 x1).length : Int) - 1))).f3) ((rd_T32 (rd_LT32 x0 x1) (wrap64 (((rd_LT32 x0 x1).length : Int) - 1))).f4) ((rd_T32 (rd_LT32 x0 x1) (wrap64 (((rd_LT32 x0 x1).length : Int) - 1))).f5)).bind fun t489 => (flow_Succs.l0 k x0 ([] : List Int) t489 (t489.length : Int) 0)) else (none)) else (none)) else (none)) else (none))
def flow_Succs.l0 : Nat → List (List (S32)) → List Int → List Int → Int → Int → Option (List Int)
 | 0, _, _, _, _, _ => none
 | k + 1, x0, x6, x35, x36, x37 => if x37 < x36 then (if 0 ≤ x37 then (if x37 < (x35.length : Int) then (if (rd x35 x37) ≥ 0 then (if (rd x35 x37) < (x0.length : Int) then ((slices_Contains_int_int.f k x6 (rd x35 x37)).bind fun t493 => (if t493 = true then (flow_Succs.l0 k x0 x6 x35 x36 (wrap64 (x37 + 1))) else (if x6.length < 17592186044416 then (flow_Succs.l0 k x0 (x6 ++ [rd x35 x37]) x35 x36 (wrap64 (x37 + 1))) else (none)))) else (flow_Succs.l0 k x0 x6 x35 x36 (wrap64 (x37 + 1)))) else (flow_Succs.l0 k x0 x6 x35 x36 (wrap64 (x37 + 1)))) else (none)) else (none)) else (some x6)
end
def flow_Succs.f (k : Nat) (l0 : List (List (S32))) (a1 : Int) : Option (List Int) := if a1 < 0 then (flow_Succs.j0 k l0 a1 true) else (if a1 ≥ (l0.length : Int) then (flow_Succs.j0 k l0 a1 true) else (if 0 ≤ a1 then (if a1 < (l0.length : Int) then (flow_Succs.j0 k l0 a1 (((rd_LT32 l0 a1).length : Int) == 0)) else (none)) else (none)))
set_option maxHeartbeats 8000000 in
set_option maxRecDepth 100000 in
theorem flow_Succs.calls (k : Nat) (A0 : Option Addr) (c0 : Nat) (l0 : List (List (S32))) (a1 : Int) (r : List Int) (w : World) (hr0 : Kd.C (Kd.slice 32 k32) w A0 l0.length l0) (hc0 : l0.length ≤ c0) (h : flow_Succs.f k l0 a1 = some r) :
  Calls Tryd.prog 91 #[.slice A0 l0.length c0, .int .i64 a1] w fun e w' => ∃ v0_ : Value, e = .returned (v0_) ∧ Kd.R (Kd.int .i64) 3 w' w.heap.size (fun _ => True) v0_ r ∧ Below w.heap.size w w' := by
 have hu32 := Tryd.underlying32
 have HR0 := Aside0.mk hr0
 have HC0 := Aside0.mk hc0
 clear hr0 hc0
 have HB := Aside0.mk (Below.refl w.heap.size w)
 have H : (if a1 < 0 then (flow_Succs.j0 k l0 a1 true) else (if a1 ≥ (l0.length : Int) then (flow_Succs.j0 k l0 a1 true) else (if 0 ≤ a1 then (if a1 < (l0.length : Int) then (flow_Succs.j0 k l0 a1 (((rd_LT32 l0 a1).length : Int) == 0)) else (none)) else (none)))) = some r := h
 clear h
 have HC3 := Aside0.mk H
 clear H
 go_enter Tryd.func91, Tryd.ntmps91
 go_upto_region 1 with (fail)
 go_cut [24] (fun v24 wc => ∃ (kq : Nat) (x24_2 : Bool), v24 = .bool x24_2 ∧ Aside0 (flow_Succs.j0 kq l0 a1 x24_2 = some r) ∧ Aside0 (kq ≤ k) ∧ Aside0 (Below w.heap.size w wc))
 case first =>
  have H := HC3.out
  clear HC3
  by_cases c4 : a1 < 0
  ·rw [if_pos c4] at H
   have c4b0 : decide (a1 < 0) = true := decide_eq_true c4
   clear c4
   (first | rw [c4b0] | (simp only [i64_w]; rw [c4b0]) | skip)
   have H' := Aside0.mk H
   clear H
   go_wp2
   go_meet
   case rel => exact ⟨_, (true), (by first | rfl | (simp; done) | (simp [*]; done)), H', ⟨by first | omega | exact Nat.le_refl _⟩, ⟨by repeat (first | (with_reducible first | exact HB.out | apply bA | apply bN | apply bD) | exact HB.out)⟩⟩
  ·rw [if_neg c4] at H
   have c4b0 : decide (a1 < 0) = false := decide_eq_false c4
   clear c4
   (first | rw [c4b0] | (simp only [i64_w]; rw [c4b0]) | skip)
   by_cases c5 : a1 ≥ (l0.length : Int)
   ·rw [if_pos c5] at H
    have c5b0 : decide ((l0.length : Int) ≤ a1) = true := decide_eq_true c5
    clear c5
    have H' := Aside0.mk H
    clear H
    go_wp2
    go_meet
    case rel => exact ⟨_, (true), (by first | rfl | (simp; done) | (simp [*]; done)), H', ⟨by first | omega | exact Nat.le_refl _⟩, ⟨by repeat (first | (with_reducible first | exact HB.out | apply bA | apply bN | apply bD) | exact HB.out)⟩⟩
   ·rw [if_neg c5] at H
    have c5b0 : decide ((l0.length : Int) ≤ a1) = false := decide_eq_false c5
    clear c5
    by_cases c6 : 0 ≤ a1
    ·rw [if_pos c6] at H
     have c6b0 : decide (0 ≤ a1) = true := decide_eq_true c6
     clear c6
     by_cases c7 : a1 < (l0.length : Int)
     ·rw [if_pos c7] at H
      have c7b0 : decide (a1 < (l0.length : Int)) = true := decide_eq_true c7
      clear c7
      have H' := Aside0.mk H
      clear H
      have p486 : 0 ≤ (a1 : Int) := oD (by first | (with_reducible assumption) | assumption)
      have q486 : a1 < (l0.length : Int) := oD (by first | (with_reducible assumption) | assumption)
      obtain ⟨ad486, A486_0, c486_0, e486, hx486_0, hl486_0, hi486_0⟩ := at_LT32 HR0.out a1 p486 q486
      cases e486
      (try replace hx486_0 := (HB.out.cell (lC w _ hx486_0)).trans hx486_0)
      have HR486_0 := Aside0.mk hi486_0
      have HC486_0 := Aside0.mk hl486_0
      clear hi486_0 hl486_0
      replace p486 := eq_true p486
      replace q486 := eq_true q486
      go_wp2
      go_meet
      case rel => exact ⟨_, ((((rd_LT32 l0 a1).length : Int) == 0)), (by first | rfl | (simp; done) | (simp [*]; done)), H', ⟨by first | omega | exact Nat.le_refl _⟩, ⟨by repeat (first | (with_reducible first | exact HB.out | apply bA | apply bN | apply bD) | exact HB.out)⟩⟩
     ·rw [if_neg c7] at H
      exact absurd H (by simp)
    ·rw [if_neg c6] at H
     exact absurd H (by simp)
 case rest =>
  clear HC3
  try clear p2
  try clear c4
  try clear c4b0
  try clear p4
  try clear q4
  try clear hx4
  try clear c5
  try clear c5b0
  try clear c6
  try clear c6b0
  try clear c7
  try clear c7b0
  try clear hx486_0
  try clear p486
  try clear q486
  obtain ⟨kq, x24_2, rfl, HA, HJ2, HB⟩ := hcut
  cases kq with
  | zero => exact absurd HA.out (by simp [flow_Succs.j0])
  | succ kj2 =>
   have H := HA.out
   clear HA
   simp only [flow_Succs.j0] at H
   by_cases c8 : x24_2 = true
   ·subst c8
    have H1 : (some ([] : List Int)) = some r := by rw [if_pos rfl] at H; exact H
    clear H
    have H := H1
    clear H1
    obtain rfl := Option.some.inj H
    go_wp2
    go_ret
    exact ⟨_, by first | rfl | (simp [errW_none, errW_some] <;> rfl) | (simp [*, errW_none, errW_some] <;> rfl), by first | exact Kd.R_nil _ _ _ _ _ | exact Kd.N_nil _ _ _ _ _ | exact Kd.V_nil _ _ _ _ _ | exact Kd.Q_nil _ _ _ _ _ | exact Kd.S_nil _ _ _ _ _, by repeat (first | (with_reducible first | exact HB.out | apply bA | apply bN | apply bD) | exact HB.out)⟩
   ·replace c8 := Bool.eq_false_iff.mpr c8
    subst c8
    have H1 : (if 0 ≤ a1 then (if a1 < (l0.length : Int) then (if 0 ≤ (wrap64 (((rd_LT32 l0 a1).length : Int) - 1)) then (if (wrap64 (((rd_LT32 l0 a1).length : Int) - 1)) < ((rd_LT32 l0 a1).length : Int) then ((ir_Targets.f ((rd_T32 (rd_LT32 l0 a1) (wrap64 (((rd_LT32 l0 a1).length : Int) - 1))).f0) ((rd_T32 (rd_LT32 l0 a1) (wrap64 (((rd_LT32 l0 a1).length : Int) - 1))).f1) ((rd_T32 (rd_LT32 l0 a1) (wrap64 (((rd_LT32 l0 a1).length : Int) - 1))).f2) ((rd_T32 (rd_LT32 l0 a1) (wrap64 (((rd_LT32 l0 a1).length : Int) - 1))).f3) ((rd_T32 (rd_LT32 l0 a1) (wrap64 (((rd_LT32 l0 a1).length : Int) - 1))).f4) ((rd_T32 (rd_LT32 l0 a1) (wrap64 (((rd_LT32 l0 a1).length : Int) - 1))).f5)).bind fun t489 => (flow_Succs.l0 kj2 l0 ([] : List Int) t489 (t489.length : Int) 0)) else (none)) else (none)) else (none)) else (none)) = some r := by rw [if_neg (show ¬ (false = true) by decide)] at H; exact H
    clear H
    have H := H1
    clear H1
    by_cases c9 : 0 ≤ a1
    ·rw [if_pos c9] at H
     have c9b0 : decide (0 ≤ a1) = true := decide_eq_true c9
     clear c9
     by_cases c10 : a1 < (l0.length : Int)
     ·rw [if_pos c10] at H
      have c10b0 : decide (a1 < (l0.length : Int)) = true := decide_eq_true c10
      clear c10
      obtain ⟨ji11, hji11⟩ : ∃ j_ : Int, (wrap64 (((rd_LT32 l0 a1).length : Int) - 1)) = j_ := ⟨_, rfl⟩
      replace H : (if 0 ≤ (ji11) then (if (ji11) < ((rd_LT32 l0 a1).length : Int) then ((ir_Targets.f ((rd_T32 (rd_LT32 l0 a1) (ji11)).f0) ((rd_T32 (rd_LT32 l0 a1) (ji11)).f1) ((rd_T32 (rd_LT32 l0 a1) (ji11)).f2) ((rd_T32 (rd_LT32 l0 a1) (ji11)).f3) ((rd_T32 (rd_LT32 l0 a1) (ji11)).f4) ((rd_T32 (rd_LT32 l0 a1) (ji11)).f5)).bind fun t489 => (flow_Succs.l0 kj2 l0 ([] : List Int) t489 (t489.length : Int) 0)) else (none)) else (none)) = some r := by first | (rw [hji11] at H; exact H) | (simp only [hji11] at H ⊢; exact H)
      have hji11w : (IntKind.i64.wrap (((rd_LT32 l0 a1).length : Int) - 1)) = ji11 := (i64_w _).trans hji11
      by_cases c12 : 0 ≤ (ji11)
      ·rw [if_pos c12] at H
       have c12b0 : decide (0 ≤ (ji11)) = true := decide_eq_true c12
       clear c12
       by_cases c13 : (ji11) < ((rd_LT32 l0 a1).length : Int)
       ·rw [if_pos c13] at H
        have c13b0 : decide ((ji11) < ((rd_LT32 l0 a1).length : Int)) = true := decide_eq_true c13
        clear c13
        replace H := Option.bind_eq_some_iff.mp H
        obtain ⟨t489, A140, H⟩ := H
        replace H : (flow_Succs.l0 kj2 l0 ([] : List Int) t489 (t489.length : Int) 0) = some r := H
        have A14 := Aside0.mk A140
        clear A140
        have H' := Aside0.mk H
        clear H
        have p487 : 0 ≤ (a1 : Int) := oD (by first | (with_reducible assumption) | assumption)
        have q487 : a1 < (l0.length : Int) := oD (by first | (with_reducible assumption) | assumption)
        obtain ⟨ad487, A487_0, c487_0, e487, hx487_0, hl487_0, hi487_0⟩ := at_LT32 HR0.out a1 p487 q487
        cases e487
        (try replace hx487_0 := (HB.out.cell (lC w _ hx487_0)).trans hx487_0)
        have HR487_0 := Aside0.mk hi487_0
        have HC487_0 := Aside0.mk hl487_0
        clear hi487_0 hl487_0
        replace p487 := eq_true p487
        replace q487 := eq_true q487
        have p488 : 0 ≤ ((ji11) : Int) := oD (by first | (with_reducible assumption) | assumption)
        have q488 : (ji11) < ((rd_LT32 l0 a1).length : Int) := oD (by first | (with_reducible assumption) | assumption)
        obtain ⟨ad488, A488_5, c488_5, e488, hx488_0, hx488_1, hx488_2, hx488_3, hx488_4, hx488_5, hl488_5, hi488_5⟩ := at_T32 HR487_0.out (ji11) p488 q488
        cases e488
        (try replace hx488_0 := (HB.out.cell (lC w _ hx488_0)).trans hx488_0)
        (try replace hx488_1 := (HB.out.cell (lC w _ hx488_1)).trans hx488_1)
        (try replace hx488_2 := (HB.out.cell (lC w _ hx488_2)).trans hx488_2)
        (try replace hx488_3 := (HB.out.cell (lC w _ hx488_3)).trans hx488_3)
        (try replace hx488_4 := (HB.out.cell (lC w _ hx488_4)).trans hx488_4)
        (try replace hx488_5 := (HB.out.cell (lC w _ hx488_5)).trans hx488_5)
        have HR488_5 := Aside0.mk hi488_5
        have HC488_5 := Aside0.mk hl488_5
        clear hi488_5 hl488_5
        replace p488 := eq_true p488
        replace q488 := eq_true q488
        go_wp2_with (first | ((with_reducible refine gate_callee (f := 111) rfl ?_); refine goesL_ (some 35) rfl rfl Tryd.func111 (by kernel_rfl) rfl #[.agg #[.int .i64 ((rd_T32 (rd_LT32 l0 a1) (ji11)).f0), .int .i64 ((rd_T32 (rd_LT32 l0 a1) (ji11)).f1), .int .i64 ((rd_T32 (rd_LT32 l0 a1) (ji11)).f2), .int .i64 ((rd_T32 (rd_LT32 l0 a1) (ji11)).f3), .string ((rd_T32 (rd_LT32 l0 a1) (ji11)).f4), .slice A488_5 ((rd_T32 (rd_LT32 l0 a1) (ji11)).f5).length c488_5]] rfl (by (try simp only [List.map_toArray, List.map_cons, List.map_nil]); first | done | (simp only [hji11]; rfl) | rfl | (simp only [List.length_drop, List.length_take]; rfl)) ?_; (with_reducible refine (ir_Targets.calls ((rd_T32 (rd_LT32 l0 a1) (ji11)).f0) ((rd_T32 (rd_LT32 l0 a1) (ji11)).f1) ((rd_T32 (rd_LT32 l0 a1) (ji11)).f2) ((rd_T32 (rd_LT32 l0 a1) (ji11)).f3) ((rd_T32 (rd_LT32 l0 a1) (ji11)).f4) _ _ ((rd_T32 (rd_LT32 l0 a1) (ji11)).f5) t489 _ ?side1 ?side2 A14.out).mono ?_); (case side1 => repeat (first | exact (Kd.C_below HR488_5.out HB.out) | (with_reducible refine Kd.C_alloc ?_ _) | (with_reducible refine Kd.C_drewN ?_ _) | (with_reducible refine Kd.C_drew ?_))); (case side2 => exact HC488_5.out); rintro e w15 ⟨v490, rfl, ho0, hb⟩; refine ⟨_, rfl, ?_⟩; have n0_ := Aside0.mk (Kd.R_lower ho0 (below_size (by repeat (first | (with_reducible first | exact HB.out | apply bA | apply bN | apply bD) | exact HB.out)))); have n1_ := Aside0.mk (below_step (by repeat (first | (with_reducible first | exact HB.out | apply bA | apply bN | apply bD) | exact HB.out)) hb); clear HB; have HO491 := n0_; have HB := n1_; clear n0_ n1_; (try clear hb); (try clear hb2); (try clear hk); (try clear hi); (try clear ho0); obtain ⟨Ao16, co16, eo16⟩ := Kd.R_slice HO491.out; subst eo16))
        go_loopg [6, 37] kj2 (fun kq v6 v37 w' => ∃ (x6_2 : List Int) (x37_2 : Int), v37 = .int .i64 x37_2 ∧ Aside0 (flow_Succs.l0 kq l0 x6_2 t489 (t489.length : Int) x37_2 = some r) ∧ Aside0 (kq ≤ kj2) ∧ Aside0 (Kd.R (Kd.int .i64) 3 w' w.heap.size (fun k_ => some k_ ≠ ((.slice Ao16 t489.length co16) : Value).ownBlock) v6 x6_2) ∧ Aside0 (Kd.R (Kd.int .i64) 3 w' w.heap.size (fun k_ => some k_ ≠ (v6 : Value).ownBlock) (.slice Ao16 t489.length co16) t489) ∧ Aside0 (Below w.heap.size w w'))
        case atStart => exact ⟨(([] : List Int)), (0), (by first | rfl | (simp; done) | (simp [*]; done)), H', ⟨Nat.le_refl _⟩, ⟨by first | exact Kd.R_nil _ _ _ _ _ | exact Kd.N_nil _ _ _ _ _ | exact Kd.V_nil _ _ _ _ _ | exact Kd.Q_nil _ _ _ _ _ | exact Kd.S_nil _ _ _ _ _⟩, ⟨by (with_reducible repeat (first | apply Kd.R_alloc | apply Kd.R_drewN | apply Kd.R_drew)); exact Kd.R_mono HO491.out (fun _ hk => (by simp [Value.ownBlock]))⟩, ⟨by repeat (first | (with_reducible first | exact HB.out | apply bA | apply bN | apply bD) | exact HB.out)⟩⟩
        case round =>
         clear H'
         try clear c1
         try clear p2
         try clear c4
         try clear c4b0
         try clear p4
         try clear q4
         try clear hx4
         try clear c5
         try clear c5b0
         try clear c6
         try clear c6b0
         try clear p6
         try clear c7
         try clear c7b0
         try clear c8
         try clear c9
         try clear c9b0
         try clear c10
         try clear c10b0
         try clear c11
         try clear c12
         try clear c12b0
         try clear c13
         try clear c13b0
         try clear hx486_0
         try clear hx487_0
         try clear hx488_0
         try clear hx488_1
         try clear hx488_2
         try clear hx488_3
         try clear hx488_4
         try clear hx488_5
         try clear p2
         try clear p4
         try clear p486
         try clear p487
         try clear p488
         try clear q4
         try clear q486
         try clear q487
         try clear q488
         obtain ⟨x6_2, x37_2, rfl, HA, HK2, HO_6, HO_35, HB⟩ := hrel
         cases gk with
         | zero => exact absurd HA.out (by simp [flow_Succs.l0])
         | succ k2 =>
          have H := HA.out
          clear HA
          simp only [flow_Succs.l0] at H
          by_cases c17 : x37_2 < (t489.length : Int)
          ·rw [if_pos c17] at H
           have c17b0 : decide (x37_2 < (t489.length : Int)) = true := decide_eq_true c17
           clear c17
           by_cases c18 : 0 ≤ x37_2
           ·rw [if_pos c18] at H
            have c18b0 : decide (0 ≤ x37_2) = true := decide_eq_true c18
            clear c18
            by_cases c19 : x37_2 < (t489.length : Int)
            ·rw [if_pos c19] at H
             have c19b0 : decide (x37_2 < (t489.length : Int)) = true := decide_eq_true c19
             clear c19
             by_cases c20 : (rd t489 x37_2) ≥ 0
             ·rw [if_pos c20] at H
              have c20b0 : decide (0 ≤ (rd t489 x37_2)) = true := decide_eq_true c20
              clear c20
              by_cases c21 : (rd t489 x37_2) < (l0.length : Int)
              ·rw [if_pos c21] at H
               have c21b0 : decide ((rd t489 x37_2) < (l0.length : Int)) = true := decide_eq_true c21
               clear c21
               replace H := Option.bind_eq_some_iff.mp H
               obtain ⟨t493, A220, H⟩ := H
               replace H : (if t493 = true then (flow_Succs.l0 k2 l0 x6_2 t489 (t489.length : Int) (wrap64 (x37_2 + 1))) else (if x6_2.length < 17592186044416 then (flow_Succs.l0 k2 l0 (x6_2 ++ [rd t489 x37_2]) t489 (t489.length : Int) (wrap64 (x37_2 + 1))) else (none))) = some r := H
               have A22 := Aside0.mk A220
               clear A220
               by_cases c23 : t493 = true
               ·subst c23
                have H1 : (flow_Succs.l0 k2 l0 x6_2 t489 (t489.length : Int) (wrap64 (x37_2 + 1))) = some r := by rw [if_pos rfl] at H; exact H
                clear H
                have H := H1
                clear H1
                have H' := Aside0.mk H
                clear H
                have p492 : 0 ≤ (x37_2 : Int) := oD (by first | (with_reducible assumption) | assumption)
                have q492 : x37_2 < (t489.length : Int) := oD (by first | (with_reducible assumption) | assumption)
                obtain ⟨ad492, e492, hx492_0⟩ := Kd.at_int (Kd.R_reads' HO_35.out).2.2 x37_2 p492 q492
                cases e492
                replace p492 := eq_true p492
                replace q492 := eq_true q492
                obtain ⟨Ao24, co24, eo24⟩ := Kd.R_slice HO_6.out
                subst eo24
                go_wp2_with (first | (go_at_call 125; (with_reducible refine (slices_Contains_int_int.calls k2 _ _ x6_2 (rd t489 x37_2) true _ ?side1 ?side2 A22.out).mono ?_); (case side1 => repeat (first | exact (Kd.R_reads' HO_6.out).2.2 | (with_reducible refine Kd.C_alloc ?_ _) | (with_reducible refine Kd.C_drewN ?_ _) | (with_reducible refine Kd.C_drew ?_))); (case side2 => exact (Kd.R_reads' HO_6.out).2.1); rintro e w' ⟨rfl, ⟨nd, rfl⟩⟩; (try clear A22)))
                go_roundg k2
                case measure => have := HJ2.out; have := HK2.out; omega
                case rel => exact ⟨(x6_2), (wrap64 (x37_2 + 1)), (by first | rfl | (simp; done) | (simp [*]; done)), H', ⟨by have := HJ2.out; have := HK2.out; omega⟩, ⟨by (with_reducible repeat (first | apply Kd.R_alloc | apply Kd.R_drewN | apply Kd.R_drew)); exact HO_6.out⟩, ⟨by (with_reducible repeat (first | apply Kd.R_alloc | apply Kd.R_drewN | apply Kd.R_drew)); exact HO_35.out⟩, ⟨by repeat (first | (with_reducible first | exact HB.out | apply bA | apply bN | apply bD) | exact HB.out)⟩⟩
               ·replace c23 := Bool.eq_false_iff.mpr c23
                subst c23
                have H1 : (if x6_2.length < 17592186044416 then (flow_Succs.l0 k2 l0 (x6_2 ++ [rd t489 x37_2]) t489 (t489.length : Int) (wrap64 (x37_2 + 1))) else (none)) = some r := by rw [if_neg (show ¬ (false = true) by decide)] at H; exact H
                clear H
                have H := H1
                clear H1
                by_cases c25 : x6_2.length < 17592186044416
                ·rw [if_pos c25] at H
                 have LMc25 := Aside0.mk c25
                 clear c25
                 obtain ⟨y494, hy494⟩ : ∃ y_ : List Int, y_ = (x6_2 ++ [rd t489 x37_2]) := ⟨_, rfl⟩
                 replace H : (flow_Succs.l0 k2 l0 y494 t489 (t489.length : Int) (wrap64 (x37_2 + 1))) = some r := by first | (rw [hy494]; with_reducible exact H) | (have H2_ := (Option.bind_some _ _).symm.trans H; rw [hy494]; with_reducible exact H2_) | (have H2_ := (Option.bind_some _ _).symm.trans H; with_reducible exact H2_) | with_reducible exact H | (rw [hy494]; exact H) | exact H
                 have Ny494 := Aside0.mk hy494
                 clear hy494
                 have H' := Aside0.mk H
                 clear H
                 have p492 : 0 ≤ (x37_2 : Int) := oD (by first | (with_reducible assumption) | assumption)
                 have q492 : x37_2 < (t489.length : Int) := oD (by first | (with_reducible assumption) | assumption)
                 obtain ⟨ad492, e492, hx492_0⟩ := Kd.at_int (Kd.R_reads' HO_35.out).2.2 x37_2 p492 q492
                 cases e492
                 replace p492 := eq_true p492
                 replace q492 := eq_true q492
                 obtain ⟨Ao26, co26, eo26⟩ := Kd.R_slice HO_6.out
                 subst eo26
                 go_wp2_with (first | (go_at_call 125; (with_reducible refine (slices_Contains_int_int.calls k2 _ _ x6_2 (rd t489 x37_2) false _ ?side1 ?side2 A22.out).mono ?_); (case side1 => repeat (first | exact (Kd.R_reads' HO_6.out).2.2 | (with_reducible refine Kd.C_alloc ?_ _) | (with_reducible refine Kd.C_drewN ?_ _) | (with_reducible refine Kd.C_drew ?_))); (case side2 => exact (Kd.R_reads' HO_6.out).2.1); rintro e w' ⟨rfl, ⟨nd, rfl⟩⟩; (try clear A22)) | ((with_reducible refine gate_builtin (b := .append) (xs := #[.tmp 55, .tmp 57]) rfl ?_); (try (refine gate_guard (by rfl) ?_; dsimp only)); at_builtin; refine Kd.R_append (Kd.int .i64) (w0 := w) w.heap.size rfl (.tmp 55) (.tmp 57) 26 3 (.int .i64 0) 8 rfl Tryd.underlying26 info3 rfl (by decide) (by omega) (.slice Ao26 x6_2.length co26) x6_2 (rd t489 x37_2) [.int .i64 (rd t489 x37_2)] (fun k_ => some k_ ≠ (.slice (some ad492) t489.length co16 : Value).ownBlock) (fun _ => False) rfl rfl ?aP (fun _ hk => hk.elim) ?aF ?aO ?aB ?aS ?aL ?_; (case aP => exact rfl); (case aB => exact (by repeat (first | (with_reducible first | exact HB.out | apply bA | apply bN | apply bD) | exact HB.out))); (case aF => exact (fun k_ hk => Kd.fresh' (Kd.R_lt (by (with_reducible repeat (first | apply Kd.R_alloc | apply Kd.R_drewN | apply Kd.R_drew)); exact HO_35.out)) k_ hk)); (case aO => exact (by (with_reducible repeat (first | apply Kd.R_alloc | apply Kd.R_drewN | apply Kd.R_drew)); exact HO_6.out)); (case aS => exact (below_size (by repeat (first | (with_reducible first | exact HB.out | apply bA | apply bN | apply bD) | exact HB.out)))); (case aL => have := LMc25.out; omega); intro v495 w27 ho hb hg hat; rw [← Ny494.out] at ho; have n0_ := Aside0.mk (Kd.R_after (ok := (fun _ => True)) (by (with_reducible repeat (first | apply Kd.R_alloc | apply Kd.R_drewN | apply Kd.R_drew)); exact Kd.R_mono HO_35.out (fun _ hk => ⟨trivial, hk⟩)) hg hat); have n1_ := Aside0.mk (hb); have n2_ := Aside0.mk (ho); clear HO_35; clear HB; clear HO_6; have HO_35 := n0_; have HB := n1_; have HO496 := n2_; clear n0_ n1_ n2_; clear ho hb hg hat))
                 go_roundg k2
                 case measure => have := HJ2.out; have := HK2.out; omega
                 case rel => exact ⟨(y494), (wrap64 (x37_2 + 1)), (by first | rfl | (simp; done) | (simp [*]; done)), H', ⟨by have := HJ2.out; have := HK2.out; omega⟩, ⟨by (with_reducible repeat (first | apply Kd.R_alloc | apply Kd.R_drewN | apply Kd.R_drew)); exact HO496.out⟩, ⟨by (with_reducible repeat (first | apply Kd.R_alloc | apply Kd.R_drewN | apply Kd.R_drew)); exact Kd.R_mono HO_35.out (fun _ hk => hk.2)⟩, ⟨by repeat (first | (with_reducible first | exact HB.out | apply bA | apply bN | apply bD) | exact HB.out)⟩⟩
                ·rw [if_neg c25] at H
                 exact absurd H (by simp)
              ·rw [if_neg c21] at H
               have c21b0 : decide ((rd t489 x37_2) < (l0.length : Int)) = false := decide_eq_false c21
               clear c21
               have H' := Aside0.mk H
               clear H
               have p492 : 0 ≤ (x37_2 : Int) := oD (by first | (with_reducible assumption) | assumption)
               have q492 : x37_2 < (t489.length : Int) := oD (by first | (with_reducible assumption) | assumption)
               obtain ⟨ad492, e492, hx492_0⟩ := Kd.at_int (Kd.R_reads' HO_35.out).2.2 x37_2 p492 q492
               cases e492
               replace p492 := eq_true p492
               replace q492 := eq_true q492
               go_wp2
               go_roundg k2
               case measure => have := HJ2.out; have := HK2.out; omega
               case rel => exact ⟨(x6_2), (wrap64 (x37_2 + 1)), (by first | rfl | (simp; done) | (simp [*]; done)), H', ⟨by have := HJ2.out; have := HK2.out; omega⟩, ⟨by (with_reducible repeat (first | apply Kd.R_alloc | apply Kd.R_drewN | apply Kd.R_drew)); exact HO_6.out⟩, ⟨by (with_reducible repeat (first | apply Kd.R_alloc | apply Kd.R_drewN | apply Kd.R_drew)); exact HO_35.out⟩, ⟨by repeat (first | (with_reducible first | exact HB.out | apply bA | apply bN | apply bD) | exact HB.out)⟩⟩
             ·rw [if_neg c20] at H
              have c20b0 : decide (0 ≤ (rd t489 x37_2)) = false := decide_eq_false c20
              clear c20
              have H' := Aside0.mk H
              clear H
              have p492 : 0 ≤ (x37_2 : Int) := oD (by first | (with_reducible assumption) | assumption)
              have q492 : x37_2 < (t489.length : Int) := oD (by first | (with_reducible assumption) | assumption)
              obtain ⟨ad492, e492, hx492_0⟩ := Kd.at_int (Kd.R_reads' HO_35.out).2.2 x37_2 p492 q492
              cases e492
              replace p492 := eq_true p492
              replace q492 := eq_true q492
              go_wp2
              go_roundg k2
              case measure => have := HJ2.out; have := HK2.out; omega
              case rel => exact ⟨(x6_2), (wrap64 (x37_2 + 1)), (by first | rfl | (simp; done) | (simp [*]; done)), H', ⟨by have := HJ2.out; have := HK2.out; omega⟩, ⟨by (with_reducible repeat (first | apply Kd.R_alloc | apply Kd.R_drewN | apply Kd.R_drew)); exact HO_6.out⟩, ⟨by (with_reducible repeat (first | apply Kd.R_alloc | apply Kd.R_drewN | apply Kd.R_drew)); exact HO_35.out⟩, ⟨by repeat (first | (with_reducible first | exact HB.out | apply bA | apply bN | apply bD) | exact HB.out)⟩⟩
            ·rw [if_neg c19] at H
             exact absurd H (by simp)
           ·rw [if_neg c18] at H
            exact absurd H (by simp)
          ·rw [if_neg c17] at H
           have c17b0 : decide (x37_2 < (t489.length : Int)) = false := decide_eq_false c17
           clear c17
           obtain rfl := Option.some.inj H
           go_wp2
           go_ret
           exact ⟨_, by first | rfl | (simp [errW_none, errW_some] <;> rfl) | (simp only [← hji11]; first | rfl | (simp [errW_none, errW_some] <;> rfl)) | (simp [*, errW_none, errW_some] <;> rfl), by (with_reducible repeat (first | apply Kd.R_alloc | apply Kd.R_drewN | apply Kd.R_drew)); exact Kd.R_mono HO_6.out (fun _ hk => trivial), by repeat (first | (with_reducible first | exact HB.out | apply bA | apply bN | apply bD) | exact HB.out)⟩
       ·rw [if_neg c13] at H
        exact absurd H (by simp)
      ·rw [if_neg c12] at H
       exact absurd H (by simp)
     ·rw [if_neg c10] at H
      exact absurd H (by simp)
    ·rw [if_neg c9] at H
     exact absurd H (by simp)
end Go.Proofs.YtoilapjkgligfaaDoor.P
namespace Go.Proofs.YtoilapjkgligfaaDoor.P
open Go.RowKit Go.Proofs.YtoilapjkgligfaaDoorW.PrintWords Go.Proofs.YtoilapjkgligfaaDoorW.PrintLast Go.Proofs.YtoilapjkgligfaaDoorW.PrintMore
attribute [local go_sem] max2_int min2_int max_two min_two max_three min_three max_four min_four 
set_option linter.unusedVariables false
set_option linter.unusedSimpArgs false
def live_set_without.f (a0 : Int) (a1 : Int) : Option (Int) := if 0 ≤ (IntKind.u64.wrap (a1)) then (some (Go.bits .andNot .u64 a0 (shl .u64 1 (IntKind.u64.wrap (a1))))) else (none)
set_option maxHeartbeats 8000000 in
set_option maxRecDepth 100000 in
theorem live_set_without.calls (a0 : Int) (a1 : Int) (r : Int) (w : World) (h : live_set_without.f a0 a1 = some r) :
  Calls Tryd.prog 141 #[.int .u64 a0, .int .i64 a1] w fun e w' => e = .returned (.int .u64 r) ∧ Drawn0 w w' := by
 have H : (if 0 ≤ (IntKind.u64.wrap (a1)) then (some (Go.bits .andNot .u64 a0 (shl .u64 1 (IntKind.u64.wrap (a1))))) else (none)) = some r := h
 clear h
 obtain ⟨ji3, hji3⟩ : ∃ j_ : Int, (IntKind.u64.wrap (a1)) = j_ := ⟨_, rfl⟩
 replace H : (if 0 ≤ (ji3) then (some (Go.bits .andNot .u64 a0 (shl .u64 1 (ji3)))) else (none)) = some r := by first | (rw [hji3] at H; exact H) | (simp only [hji3] at H ⊢; exact H)
 by_cases c4 : 0 ≤ (ji3)
 ·rw [if_pos c4] at H
  have c4b0 := eq_true c4
  have c4b1 : decide (0 ≤ (ji3)) = true := decide_eq_true c4
  clear c4
  obtain ⟨ji5, hji5⟩ : ∃ j_ : Int, (shl .u64 1 (ji3)) = j_ := ⟨_, rfl⟩
  replace H : (some (Go.bits .andNot .u64 a0 (ji5))) = some r := by first | (rw [hji5] at H; exact H) | (simp only [hji5] at H ⊢; exact H)
  have hji5_ : (IntKind.u64.wrap (1 * 2 ^ min (ji3).toNat 64)) = ji5 := hji5
  have hji5z : (ji3) ≤ 64 → (IntKind.u64.wrap (1 * 2 ^ (ji3).toNat)) = ji5 := shl_small hji5
  have hji5u : (IntKind.u64.wrap (2 ^ min (ji3).toNat 64)) = ji5 := by have h_ := hji5_; rw [Int.one_mul] at h_; exact h_
  have hji5v : (ji3) ≤ 64 → (IntKind.u64.wrap (2 ^ (ji3).toNat)) = ji5 := fun hle_ => by have h_ := hji5z hle_; rw [Int.one_mul] at h_; exact h_
  obtain rfl := Option.some.inj H
  go_enter Tryd.func141, Tryd.ntmps141
  go_wp2
  go_ret
  exact ⟨by first | rfl | (simp; done) | (simp only [← hji3, ← hji5] <;> (first | rfl | simp)) | (simp [*]; done), by repeat (first | exact Drawn0.refl _ | apply Drawn0.step)⟩
 ·rw [if_neg c4] at H
  exact absurd H (by simp)
end Go.Proofs.YtoilapjkgligfaaDoor.P
namespace Go.Proofs.YtoilapjkgligfaaDoor.P
open Go.RowKit Go.Proofs.YtoilapjkgligfaaDoorW.PrintWords Go.Proofs.YtoilapjkgligfaaDoorW.PrintLast Go.Proofs.YtoilapjkgligfaaDoorW.PrintMore
attribute [local go_sem] max2_int min2_int max_two min_two max_three min_three max_four min_four 
set_option linter.unusedVariables false
set_option linter.unusedSimpArgs false
def ir_Def.f (a0_0 : Int) (a0_1 : Int) (a0_2 : Int) (a0_3 : Int) (a0_4 : ByteArray) (l0_5 : List Int) : Option (Int) := (ir_shape.f a0_0).bind fun t467 => (if t467.toList = ([] : List UInt8) then (some (-1)) else (if 0 < (t467.size : Int) then (if (bt t467 0) = 114 then (some a0_1) else (some (-1))) else (none)))
set_option maxHeartbeats 8000000 in
set_option maxRecDepth 100000 in
theorem ir_Def.calls (a0_0 : Int) (a0_1 : Int) (a0_2 : Int) (a0_3 : Int) (a0_4 : ByteArray) (A0_5 : Option Addr) (c0_5 : Nat) (l0_5 : List Int) (r : Int) (w : World) (hGS : GS w) (hr0_5 : Kd.C (Kd.int .i64) w A0_5 l0_5.length l0_5) (hc0_5 : l0_5.length ≤ c0_5) (h : ir_Def.f a0_0 a0_1 a0_2 a0_3 a0_4 l0_5 = some r) :
  Calls Tryd.prog 98 #[.agg #[.int .i64 a0_0, .int .i64 a0_1, .int .i64 a0_2, .int .i64 a0_3, .string a0_4, .slice A0_5 l0_5.length c0_5]] w fun e w' => e = .returned (.int .i64 r) ∧ Below w.heap.size w w' := by
 have hu32 := Tryd.underlying32
 have HGS := Aside0.mk hGS
 clear hGS
 have HR0_5 := Aside0.mk hr0_5
 have HC0_5 := Aside0.mk hc0_5
 clear hr0_5 hc0_5
 have HB := Aside0.mk (Below.refl w.heap.size w)
 have H : ((ir_shape.f a0_0).bind fun t467 => (if t467.toList = ([] : List UInt8) then (some (-1)) else (if 0 < (t467.size : Int) then (if (bt t467 0) = 114 then (some a0_1) else (some (-1))) else (none)))) = some r := h
 clear h
 replace H := Option.bind_eq_some_iff.mp H
 obtain ⟨t467, A20, H⟩ := H
 replace H : (if t467.toList = ([] : List UInt8) then (some (-1)) else (if 0 < (t467.size : Int) then (if (bt t467 0) = 114 then (some a0_1) else (some (-1))) else (none))) = some r := H
 have A2 := Aside0.mk A20
 clear A20
 by_cases c3 : t467.toList = ([] : List UInt8)
 ·rw [if_pos c3] at H
  have c3b0 : (t467.toList == ([] : List UInt8)) = true := beq_iff_eq.mpr c3
  have c3b1 : (t467.toList != ([] : List UInt8)) = false := bne_eq_false_iff_eq.mpr c3
  clear c3
  obtain rfl := Option.some.inj H
  go_enter Tryd.func98, Tryd.ntmps98
  go_wp2_with (first | ((with_reducible refine gate_dst (N := 1) rfl ?_); refine box_event ?hg (N := 1) ?hd (cs := #[.int .i64 a0_0, .int .i64 a0_1, .int .i64 a0_2, .int .i64 a0_3, .string a0_4, .slice A0_5 l0_5.length c0_5]) (t := 32) ?hr ?_; (case hd => rfl); (case hg => rfl); (case hr => first | (go_simp; done) | (go_simp; rfl)); intro gb466 hg w4 hbox hb; have n0_ := Aside0.mk (below_step (by repeat (first | (with_reducible first | exact HB.out | apply bA | apply bN | apply bD) | exact HB.out)) hb); have n1_ := Aside0.mk (hbox); have n2_ := Aside0.mk ((by rw [hg]; exact (below_size (by repeat (first | (with_reducible first | exact HB.out | apply bA | apply bN | apply bD) | exact HB.out))) : w.heap.size ≤ gb466)); have n3_ := Aside0.mk ((by rw [hg]; exact (below_size (by repeat (first | (with_reducible first | exact HB.out | apply bA | apply bN | apply bD) | exact HB.out))) : w.heap.size ≤ gb466)); clear HB; have HB := n0_; have BK466 := n1_; have GW466 := n2_; have GE466 := n3_; clear n0_ n1_ n2_ n3_; clear hb hbox hg; have hcz5_0 : w4.cell? ⟨gb466, 0, none⟩ = some (.int .i64 a0_0) := (bC BK466.out 0).trans rfl; have hcz5_1 : w4.cell? ⟨gb466, 1, none⟩ = some (.int .i64 a0_1) := (bC BK466.out 1).trans rfl; have hcz5_2 : w4.cell? ⟨gb466, 2, none⟩ = some (.int .i64 a0_2) := (bC BK466.out 2).trans rfl; have hcz5_3 : w4.cell? ⟨gb466, 3, none⟩ = some (.int .i64 a0_3) := (bC BK466.out 3).trans rfl; have hcz5_4 : w4.cell? ⟨gb466, 4, none⟩ = some (.string a0_4) := (bC BK466.out 4).trans rfl; have hcz5_5 : w4.cell? ⟨gb466, 5, none⟩ = some (.slice A0_5 l0_5.length c0_5) := (bC BK466.out 5).trans rfl; have hfz5_0 := bZ BK466.out 0; have hfz5_1 := bZ BK466.out 1; have hfz5_2 := bZ BK466.out 2; have hfz5_3 := bZ BK466.out 3; have hfz5_4 := bZ BK466.out 4; have hfz5_5 := bZ BK466.out 5) | ((with_reducible refine gate_callee (f := 107) rfl ?_); refine goesL_ (some 6) rfl rfl Tryd.func107 (by kernel_rfl) rfl #[.int .i64 a0_0] rfl (by (try simp only [List.map_toArray, List.map_cons, List.map_nil]); first | done | rfl | (simp only [List.length_drop, List.length_take]; rfl)) ?_; (with_reducible refine (ir_shape.calls a0_0 t467 _ ?side1 A2.out).mono ?_); (case side1 => first | exact GS.of_below HGS.out (by repeat (first | (with_reducible first | exact HB.out | apply bA | apply bN | apply bD | refine bS ?_ GE466.out) | exact HB.out)) | (repeat (first | exact HGS.out | apply GS.alloc | apply GS.drewN | apply GS.drew))); rintro e w' ⟨rfl, ⟨nd, rfl⟩⟩; refine ⟨_, rfl, ?_⟩; (try clear A2)))
  go_ret
  exact ⟨by first | rfl | (simp [errW_none, errW_some] <;> rfl) | (simp [*, errW_none, errW_some] <;> rfl), by repeat (first | (with_reducible first | exact HB.out | apply bA | apply bN | apply bD | refine bS ?_ GE466.out) | exact HB.out)⟩
 ·rw [if_neg c3] at H
  have c3b0 : (t467.toList == ([] : List UInt8)) = false := beq_eq_false_iff_ne.mpr c3
  have c3b1 : (t467.toList != ([] : List UInt8)) = true := bne_iff_ne.mpr c3
  by_cases c6 : 0 < (t467.size : Int)
  ·rw [if_pos c6] at H
   have c6b0 : decide (0 < (t467.size : Int)) = true := decide_eq_true c6
   have c6b1 : decide (0 < t467.size) = true := decide_eq_true (by omega)
   clear c6
   by_cases c8 : (bt t467 0) = 114
   ·rw [if_pos c8] at H
    have c8b0 : ((bt t467 0) == 114) = true := beq_iff_eq.mpr c8
    have c8b1 : ((bt t467 0) != 114) = false := bne_eq_false_iff_eq.mpr c8
    clear c8
    obtain rfl := Option.some.inj H
    go_enter Tryd.func98, Tryd.ntmps98
    go_wp2_with (first | ((with_reducible refine gate_dst (N := 1) rfl ?_); refine box_event ?hg (N := 1) ?hd (cs := #[.int .i64 a0_0, .int .i64 a0_1, .int .i64 a0_2, .int .i64 a0_3, .string a0_4, .slice A0_5 l0_5.length c0_5]) (t := 32) ?hr ?_; (case hd => rfl); (case hg => rfl); (case hr => first | (go_simp; done) | (go_simp; rfl)); intro gb466 hg w9 hbox hb; have n0_ := Aside0.mk (below_step (by repeat (first | (with_reducible first | exact HB.out | apply bA | apply bN | apply bD) | exact HB.out)) hb); have n1_ := Aside0.mk (hbox); have n2_ := Aside0.mk ((by rw [hg]; exact (below_size (by repeat (first | (with_reducible first | exact HB.out | apply bA | apply bN | apply bD) | exact HB.out))) : w.heap.size ≤ gb466)); have n3_ := Aside0.mk ((by rw [hg]; exact (below_size (by repeat (first | (with_reducible first | exact HB.out | apply bA | apply bN | apply bD) | exact HB.out))) : w.heap.size ≤ gb466)); clear HB; have HB := n0_; have BK466 := n1_; have GW466 := n2_; have GE466 := n3_; clear n0_ n1_ n2_ n3_; clear hb hbox hg; have hcz10_0 : w9.cell? ⟨gb466, 0, none⟩ = some (.int .i64 a0_0) := (bC BK466.out 0).trans rfl; have hcz10_1 : w9.cell? ⟨gb466, 1, none⟩ = some (.int .i64 a0_1) := (bC BK466.out 1).trans rfl; have hcz10_2 : w9.cell? ⟨gb466, 2, none⟩ = some (.int .i64 a0_2) := (bC BK466.out 2).trans rfl; have hcz10_3 : w9.cell? ⟨gb466, 3, none⟩ = some (.int .i64 a0_3) := (bC BK466.out 3).trans rfl; have hcz10_4 : w9.cell? ⟨gb466, 4, none⟩ = some (.string a0_4) := (bC BK466.out 4).trans rfl; have hcz10_5 : w9.cell? ⟨gb466, 5, none⟩ = some (.slice A0_5 l0_5.length c0_5) := (bC BK466.out 5).trans rfl; have hfz10_0 := bZ BK466.out 0; have hfz10_1 := bZ BK466.out 1; have hfz10_2 := bZ BK466.out 2; have hfz10_3 := bZ BK466.out 3; have hfz10_4 := bZ BK466.out 4; have hfz10_5 := bZ BK466.out 5) | ((with_reducible refine gate_callee (f := 107) rfl ?_); refine goesL_ (some 6) rfl rfl Tryd.func107 (by kernel_rfl) rfl #[.int .i64 a0_0] rfl (by (try simp only [List.map_toArray, List.map_cons, List.map_nil]); first | done | rfl | (simp only [List.length_drop, List.length_take]; rfl)) ?_; (with_reducible refine (ir_shape.calls a0_0 t467 _ ?side1 A2.out).mono ?_); (case side1 => first | exact GS.of_below HGS.out (by repeat (first | (with_reducible first | exact HB.out | apply bA | apply bN | apply bD | refine bS ?_ GE466.out) | exact HB.out)) | (repeat (first | exact HGS.out | apply GS.alloc | apply GS.drewN | apply GS.drew))); rintro e w' ⟨rfl, ⟨nd, rfl⟩⟩; refine ⟨_, rfl, ?_⟩; (try clear A2); have p7 : 0 ≤ (0 : Int) := (by omega); have q7 : 0 < t467.size := (by have : (0 : Int) < (t467.size : Int) := oD (by first | (with_reducible assumption) | assumption); omega); have hx7 : ∀ h : 0 < t467.size, ((t467[0]'h).toNat : Int) = bt t467 0 := bt_at t467 0; clear p7; have qi7 : (0 < (t467.size : Int)) = True := eq_true (oD (by first | (with_reducible assumption) | assumption)); replace q7 := eq_true q7))
    go_ret
    exact ⟨by first | rfl | (simp [errW_none, errW_some] <;> rfl) | (simp [*, errW_none, errW_some] <;> rfl), by repeat (first | (with_reducible first | exact HB.out | apply bA | apply bN | apply bD | refine bS ?_ GE466.out) | exact HB.out)⟩
   ·rw [if_neg c8] at H
    have c8b0 : ((bt t467 0) == 114) = false := beq_eq_false_iff_ne.mpr c8
    have c8b1 : ((bt t467 0) != 114) = true := bne_iff_ne.mpr c8
    obtain rfl := Option.some.inj H
    go_enter Tryd.func98, Tryd.ntmps98
    go_wp2_with (first | ((with_reducible refine gate_dst (N := 1) rfl ?_); refine box_event ?hg (N := 1) ?hd (cs := #[.int .i64 a0_0, .int .i64 a0_1, .int .i64 a0_2, .int .i64 a0_3, .string a0_4, .slice A0_5 l0_5.length c0_5]) (t := 32) ?hr ?_; (case hd => rfl); (case hg => rfl); (case hr => first | (go_simp; done) | (go_simp; rfl)); intro gb466 hg w11 hbox hb; have n0_ := Aside0.mk (below_step (by repeat (first | (with_reducible first | exact HB.out | apply bA | apply bN | apply bD) | exact HB.out)) hb); have n1_ := Aside0.mk (hbox); have n2_ := Aside0.mk ((by rw [hg]; exact (below_size (by repeat (first | (with_reducible first | exact HB.out | apply bA | apply bN | apply bD) | exact HB.out))) : w.heap.size ≤ gb466)); have n3_ := Aside0.mk ((by rw [hg]; exact (below_size (by repeat (first | (with_reducible first | exact HB.out | apply bA | apply bN | apply bD) | exact HB.out))) : w.heap.size ≤ gb466)); clear HB; have HB := n0_; have BK466 := n1_; have GW466 := n2_; have GE466 := n3_; clear n0_ n1_ n2_ n3_; clear hb hbox hg; have hcz12_0 : w11.cell? ⟨gb466, 0, none⟩ = some (.int .i64 a0_0) := (bC BK466.out 0).trans rfl; have hcz12_1 : w11.cell? ⟨gb466, 1, none⟩ = some (.int .i64 a0_1) := (bC BK466.out 1).trans rfl; have hcz12_2 : w11.cell? ⟨gb466, 2, none⟩ = some (.int .i64 a0_2) := (bC BK466.out 2).trans rfl; have hcz12_3 : w11.cell? ⟨gb466, 3, none⟩ = some (.int .i64 a0_3) := (bC BK466.out 3).trans rfl; have hcz12_4 : w11.cell? ⟨gb466, 4, none⟩ = some (.string a0_4) := (bC BK466.out 4).trans rfl; have hcz12_5 : w11.cell? ⟨gb466, 5, none⟩ = some (.slice A0_5 l0_5.length c0_5) := (bC BK466.out 5).trans rfl; have hfz12_0 := bZ BK466.out 0; have hfz12_1 := bZ BK466.out 1; have hfz12_2 := bZ BK466.out 2; have hfz12_3 := bZ BK466.out 3; have hfz12_4 := bZ BK466.out 4; have hfz12_5 := bZ BK466.out 5) | ((with_reducible refine gate_callee (f := 107) rfl ?_); refine goesL_ (some 6) rfl rfl Tryd.func107 (by kernel_rfl) rfl #[.int .i64 a0_0] rfl (by (try simp only [List.map_toArray, List.map_cons, List.map_nil]); first | done | rfl | (simp only [List.length_drop, List.length_take]; rfl)) ?_; (with_reducible refine (ir_shape.calls a0_0 t467 _ ?side1 A2.out).mono ?_); (case side1 => first | exact GS.of_below HGS.out (by repeat (first | (with_reducible first | exact HB.out | apply bA | apply bN | apply bD | refine bS ?_ GE466.out) | exact HB.out)) | (repeat (first | exact HGS.out | apply GS.alloc | apply GS.drewN | apply GS.drew))); rintro e w' ⟨rfl, ⟨nd, rfl⟩⟩; refine ⟨_, rfl, ?_⟩; (try clear A2); have p7 : 0 ≤ (0 : Int) := (by omega); have q7 : 0 < t467.size := (by have : (0 : Int) < (t467.size : Int) := oD (by first | (with_reducible assumption) | assumption); omega); have hx7 : ∀ h : 0 < t467.size, ((t467[0]'h).toNat : Int) = bt t467 0 := bt_at t467 0; clear p7; have qi7 : (0 < (t467.size : Int)) = True := eq_true (oD (by first | (with_reducible assumption) | assumption)); replace q7 := eq_true q7))
    go_ret
    exact ⟨by first | rfl | (simp [errW_none, errW_some] <;> rfl) | (simp [*, errW_none, errW_some] <;> rfl), by repeat (first | (with_reducible first | exact HB.out | apply bA | apply bN | apply bD | refine bS ?_ GE466.out) | exact HB.out)⟩
  ·rw [if_neg c6] at H
   exact absurd H (by simp)
end Go.Proofs.YtoilapjkgligfaaDoor.P
