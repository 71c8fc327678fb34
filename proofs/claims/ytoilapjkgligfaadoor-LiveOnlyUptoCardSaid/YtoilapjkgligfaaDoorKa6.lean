import Derived.Test.YtoilapjkgligfaaDoorKP
import Derived.Test.YtoilapjkgligfaaDoorKa4
import Derived.Test.YtoilapjkgligfaaDoorKa5
namespace Go.Proofs.YtoilapjkgligfaaDoor.P
open Go.RowKit Go.Proofs.YtoilapjkgligfaaDoorW.PrintWords Go.Proofs.YtoilapjkgligfaaDoorW.PrintLast Go.Proofs.YtoilapjkgligfaaDoorW.PrintMore
attribute [local go_sem] max2_int min2_int max_two min_two max_three min_three max_four min_four 
set_option linter.unusedVariables false
set_option linter.unusedSimpArgs false
mutual
def cubbyref07_One.j0 : Nat → Int → Int → Bool → Int → Int → Int → Int → ByteArray → List Int → Option (Int)
 | 0, _, _, _, _, _, _, _, _, _ => none
 | k + 1, x1, x2, x28, y0, y1, y2, y3, y4, y5 => if x28 = true then (some 72) else ((cubbyref07_Def.f y0 y1 y2 y3 y4 y5).bind fun t140 => (if t140 = (-1) then ((cubbyref07_Uses.f k y0 y1 y2 y3 y4 y5).bind fun t141 => ((cubbyref07_within.f k t141 x1).bind fun t144 => (cubbyref07_One.j1 k x2 (!t144) y0 y1 y2 y3 y4 y5))) else ((cubbyref07_Def.f y0 y1 y2 y3 y4 y5).bind fun t145 => (if t145 < 0 then (cubbyref07_One.j1 k x2 true y0 y1 y2 y3 y4 y5) else ((cubbyref07_Def.f y0 y1 y2 y3 y4 y5).bind fun t146 => (if t146 ≥ x1 then (cubbyref07_One.j1 k x2 true y0 y1 y2 y3 y4 y5) else ((cubbyref07_Uses.f k y0 y1 y2 y3 y4 y5).bind fun t147 => ((cubbyref07_within.f k t147 x1).bind fun t150 => (cubbyref07_One.j1 k x2 (!t150) y0 y1 y2 y3 y4 y5)))))))))
def cubbyref07_One.j1 : Nat → Int → Bool → Int → Int → Int → Int → ByteArray → List Int → Option (Int)
 | 0, _, _, _, _, _, _, _, _ => none
 | k + 1, x2, x49, y0, y1, y2, y3, y4, y5 => if x49 = true then (some 73) else ((cubbyref07_Def.f y0 y1 y2 y3 y4 y5).bind fun t151 => (if t151 = (-1) then (if y0 = 9 then (cubbyref07_One.j2 k x2 false y0 y1 y2 y3 y4 y5) else (if y0 = 10 then (cubbyref07_One.j2 k x2 false y0 y1 y2 y3 y4 y5) else ((cubbyref07_Last.f y0).bind fun t152 => (cubbyref07_One.j2 k x2 (!t152) y0 y1 y2 y3 y4 y5)))) else (cubbyref07_One.j2 k x2 false y0 y1 y2 y3 y4 y5)))
def cubbyref07_One.j2 : Nat → Int → Bool → Int → Int → Int → Int → ByteArray → List Int → Option (Int)
 | 0, _, _, _, _, _, _, _, _ => none
 | k + 1, x2, x68, y0, y1, y2, y3, y4, y5 => if x68 = true then (some 73) else (if y0 = 1 then (if y2 < 0 then (cubbyref07_One.j3 k x2 true y0 y1 y2 y3 y4 y5) else (cubbyref07_One.j3 k x2 (decide (y2 ≥ 65536)) y0 y1 y2 y3 y4 y5)) else (cubbyref07_One.j3 k x2 false y0 y1 y2 y3 y4 y5))
def cubbyref07_One.j3 : Nat → Int → Bool → Int → Int → Int → Int → ByteArray → List Int → Option (Int)
 | 0, _, _, _, _, _, _, _, _ => none
 | k + 1, x2, x81, y0, y1, y2, y3, y4, y5 => if x81 = true then (some 81) else ((cubbyref07_Targets.f y0 y1 y2 y3 y4 y5).bind fun t153 => ((cubbyref07_within.f k t153 x2).bind fun t156 => (if t156 = true then (if y0 = 11 then ((cubbyref07_Name.f k y4).bind fun t157 => (cubbyref07_One.j4 k (!t157) y0 y1 y2 y3 y4 y5)) else (cubbyref07_One.j4 k false y0 y1 y2 y3 y4 y5)) else (some 74))))
def cubbyref07_One.j4 : Nat → Bool → Int → Int → Int → Int → ByteArray → List Int → Option (Int)
 | 0, _, _, _, _, _, _, _ => none
 | k + 1, x95, y0, y1, y2, y3, y4, y5 => if x95 = true then (some 70) else (if y0 = 11 then (if (y5.length : Int) > 4 then (some 192) else (some 0)) else (some 0))
end
def cubbyref07_One.f (k : Nat) (a0_0 : Int) (a0_1 : Int) (a0_2 : Int) (a0_3 : Int) (a0_4 : ByteArray) (l0_5 : List Int) (a1 : Int) (a2 : Int) (a3 : Bool) : Option (Int) := if a0_0 < 1 then (cubbyref07_One.j0 k a1 a2 true a0_0 a0_1 a0_2 a0_3 a0_4 l0_5) else (if a0_0 > 14 then (cubbyref07_One.j0 k a1 a2 true a0_0 a0_1 a0_2 a0_3 a0_4 l0_5) else ((cubbyref07_Last.f a0_0).bind fun t138 => (if (t138 != a3) = true then (cubbyref07_One.j0 k a1 a2 true a0_0 a0_1 a0_2 a0_3 a0_4 l0_5) else ((cubbyref07_bare.f k a0_0 a0_1 a0_2 a0_3 a0_4 l0_5).bind fun t139 => (cubbyref07_One.j0 k a1 a2 (!t139) a0_0 a0_1 a0_2 a0_3 a0_4 l0_5)))))
set_option maxHeartbeats 8000000 in
set_option maxRecDepth 100000 in
theorem cubbyref07_One.calls (k : Nat) (a0_0 : Int) (a0_1 : Int) (a0_2 : Int) (a0_3 : Int) (a0_4 : ByteArray) (A0_5 : Option Addr) (c0_5 : Nat) (l0_5 : List Int) (a1 : Int) (a2 : Int) (a3 : Bool) (r : Int) (w : World) (hr0_5 : Kd.C (Kd.int .i64) w A0_5 l0_5.length l0_5) (hc0_5 : l0_5.length ≤ c0_5) (h : cubbyref07_One.f k a0_0 a0_1 a0_2 a0_3 a0_4 l0_5 a1 a2 a3 = some r) :
  Calls Tryd.prog 31 #[.agg #[.int .i64 a0_0, .int .i64 a0_1, .int .i64 a0_2, .int .i64 a0_3, .string a0_4, .slice A0_5 l0_5.length c0_5], .int .i64 a1, .int .i64 a2, .bool a3] w fun e w' => e = .returned (.int .i64 r) ∧ Below w.heap.size w w' := by
 have hu32 := Tryd.underlying32
 have HR0_5 := Aside0.mk hr0_5
 have HC0_5 := Aside0.mk hc0_5
 clear hr0_5 hc0_5
 have HB := Aside0.mk (Below.refl w.heap.size w)
 have H : (if a0_0 < 1 then (cubbyref07_One.j0 k a1 a2 true a0_0 a0_1 a0_2 a0_3 a0_4 l0_5) else (if a0_0 > 14 then (cubbyref07_One.j0 k a1 a2 true a0_0 a0_1 a0_2 a0_3 a0_4 l0_5) else ((cubbyref07_Last.f a0_0).bind fun t138 => (if (t138 != a3) = true then (cubbyref07_One.j0 k a1 a2 true a0_0 a0_1 a0_2 a0_3 a0_4 l0_5) else ((cubbyref07_bare.f k a0_0 a0_1 a0_2 a0_3 a0_4 l0_5).bind fun t139 => (cubbyref07_One.j0 k a1 a2 (!t139) a0_0 a0_1 a0_2 a0_3 a0_4 l0_5)))))) = some r := h
 clear h
 have HC5 := Aside0.mk H
 clear H
 go_enter Tryd.func31, Tryd.ntmps31
 go_upto_region 1 with (first | ((with_reducible refine gate_dst (N := 4) rfl ?_); (try (refine gate_guard (by rfl) ?_; dsimp only)); refine box_event ?hg (N := 4) ?hd (cs := #[.int .i64 a0_0, .int .i64 a0_1, .int .i64 a0_2, .int .i64 a0_3, .string a0_4, .slice A0_5 l0_5.length c0_5]) (t := 32) ?hr ?_; (case hd => rfl); (case hg => rfl); (case hr => first | (go_simp; done) | (go_simp; rfl)); intro gb137 hg w6 hbox hb; have n0_ := Aside0.mk (below_step (by repeat (first | (with_reducible first | exact HB.out | apply bA | apply bN | apply bD) | exact HB.out)) hb); have n1_ := Aside0.mk (hbox); have n2_ := Aside0.mk ((by rw [hg]; exact (below_size (by repeat (first | (with_reducible first | exact HB.out | apply bA | apply bN | apply bD) | exact HB.out))) : w.heap.size ≤ gb137)); have n3_ := Aside0.mk ((by rw [hg]; exact (below_size (by repeat (first | (with_reducible first | exact HB.out | apply bA | apply bN | apply bD) | exact HB.out))) : w.heap.size ≤ gb137)); clear HB; have HB := n0_; have BK137 := n1_; have GW137 := n2_; have GE137 := n3_; clear n0_ n1_ n2_ n3_; clear hb hbox hg))
 (try simp only [Act.put, List.setIfInBounds_toArray, List.set_cons_zero, List.set_cons_succ])
 go_cut [28] (fun v28 wc => ∃ (kq : Nat) (x28_4 : Bool), v28 = .bool x28_4 ∧ Aside0 (cubbyref07_One.j0 kq a1 a2 x28_4 a0_0 a0_1 a0_2 a0_3 a0_4 l0_5 = some r) ∧ Aside0 (kq ≤ k) ∧ Aside0 (wc.heap[gb137]? = some (.cells #[.int .i64 a0_0, .int .i64 a0_1, .int .i64 a0_2, .int .i64 a0_3, .string a0_4, (.slice A0_5 l0_5.length c0_5)] 32 (0, 0))) ∧ Aside0 (Below w.heap.size w wc))
 case first =>
  have H := HC5.out
  clear HC5
  by_cases c7 : a0_0 < 1
  ·rw [if_pos c7] at H
   have c7b0 : decide (a0_0 < 1) = true := decide_eq_true c7
   clear c7
   (first | rw [c7b0] | (simp only [i64_w]; rw [c7b0]) | skip)
   have H' := Aside0.mk H
   clear H
   have hcz8_0 : w6.cell? ⟨gb137, 0, none⟩ = some (.int .i64 a0_0) := (bC BK137.out 0).trans rfl
   have hcz8_1 : w6.cell? ⟨gb137, 1, none⟩ = some (.int .i64 a0_1) := (bC BK137.out 1).trans rfl
   have hcz8_2 : w6.cell? ⟨gb137, 2, none⟩ = some (.int .i64 a0_2) := (bC BK137.out 2).trans rfl
   have hcz8_3 : w6.cell? ⟨gb137, 3, none⟩ = some (.int .i64 a0_3) := (bC BK137.out 3).trans rfl
   have hcz8_4 : w6.cell? ⟨gb137, 4, none⟩ = some (.string a0_4) := (bC BK137.out 4).trans rfl
   have hcz8_5 : w6.cell? ⟨gb137, 5, none⟩ = some (.slice A0_5 l0_5.length c0_5) := (bC BK137.out 5).trans rfl
   have hfz8_0 := bZ BK137.out 0
   have hfz8_1 := bZ BK137.out 1
   have hfz8_2 := bZ BK137.out 2
   have hfz8_3 := bZ BK137.out 3
   have hfz8_4 := bZ BK137.out 4
   have hfz8_5 := bZ BK137.out 5
   go_wp2
   go_meet
   case rel => exact ⟨_, (true), (by first | rfl | (simp; done) | (simp [*]; done)), H', ⟨by first | omega | exact Nat.le_refl _⟩, ⟨by (with_reducible repeat (first | refine kN ?_ _ | refine blk_drew ?_ | refine kA ?_ _)); exact BK137.out⟩, ⟨by repeat (first | (with_reducible first | exact HB.out | apply bA | apply bN | apply bD | refine bS ?_ GE137.out) | exact HB.out)⟩⟩
  ·rw [if_neg c7] at H
   have c7b0 : decide (a0_0 < 1) = false := decide_eq_false c7
   clear c7
   (first | rw [c7b0] | (simp only [i64_w]; rw [c7b0]) | skip)
   by_cases c9 : a0_0 > 14
   ·rw [if_pos c9] at H
    have c9b0 : decide (14 < a0_0) = true := decide_eq_true c9
    clear c9
    have H' := Aside0.mk H
    clear H
    have hcz10_0 : w6.cell? ⟨gb137, 0, none⟩ = some (.int .i64 a0_0) := (bC BK137.out 0).trans rfl
    have hcz10_1 : w6.cell? ⟨gb137, 1, none⟩ = some (.int .i64 a0_1) := (bC BK137.out 1).trans rfl
    have hcz10_2 : w6.cell? ⟨gb137, 2, none⟩ = some (.int .i64 a0_2) := (bC BK137.out 2).trans rfl
    have hcz10_3 : w6.cell? ⟨gb137, 3, none⟩ = some (.int .i64 a0_3) := (bC BK137.out 3).trans rfl
    have hcz10_4 : w6.cell? ⟨gb137, 4, none⟩ = some (.string a0_4) := (bC BK137.out 4).trans rfl
    have hcz10_5 : w6.cell? ⟨gb137, 5, none⟩ = some (.slice A0_5 l0_5.length c0_5) := (bC BK137.out 5).trans rfl
    have hfz10_0 := bZ BK137.out 0
    have hfz10_1 := bZ BK137.out 1
    have hfz10_2 := bZ BK137.out 2
    have hfz10_3 := bZ BK137.out 3
    have hfz10_4 := bZ BK137.out 4
    have hfz10_5 := bZ BK137.out 5
    go_wp2
    go_meet
    case rel => exact ⟨_, (true), (by first | rfl | (simp; done) | (simp [*]; done)), H', ⟨by first | omega | exact Nat.le_refl _⟩, ⟨by (with_reducible repeat (first | refine kN ?_ _ | refine blk_drew ?_ | refine kA ?_ _)); exact BK137.out⟩, ⟨by repeat (first | (with_reducible first | exact HB.out | apply bA | apply bN | apply bD | refine bS ?_ GE137.out) | exact HB.out)⟩⟩
   ·rw [if_neg c9] at H
    have c9b0 : decide (14 < a0_0) = false := decide_eq_false c9
    clear c9
    replace H := Option.bind_eq_some_iff.mp H
    obtain ⟨t138, A110, H⟩ := H
    replace H : (if (t138 != a3) = true then (cubbyref07_One.j0 k a1 a2 true a0_0 a0_1 a0_2 a0_3 a0_4 l0_5) else ((cubbyref07_bare.f k a0_0 a0_1 a0_2 a0_3 a0_4 l0_5).bind fun t139 => (cubbyref07_One.j0 k a1 a2 (!t139) a0_0 a0_1 a0_2 a0_3 a0_4 l0_5))) = some r := H
    have A11 := Aside0.mk A110
    clear A110
    by_cases c12 : (t138 != a3) = true
    ·rw [if_pos c12] at H
     have c12b0 : (t138 != a3) = true := c12
     (try (have c12b1 : decide (t138 = a3) = false := by simpa using c12))
     (try (have c12b2 : (t138 == a3) = false := by simpa using c12))
     (try (have c12b3 : ¬ (t138 = a3) := by simpa using c12))
     clear c12
     have H' := Aside0.mk H
     clear H
     have hcz13_0 : w6.cell? ⟨gb137, 0, none⟩ = some (.int .i64 a0_0) := (bC BK137.out 0).trans rfl
     have hcz13_1 : w6.cell? ⟨gb137, 1, none⟩ = some (.int .i64 a0_1) := (bC BK137.out 1).trans rfl
     have hcz13_2 : w6.cell? ⟨gb137, 2, none⟩ = some (.int .i64 a0_2) := (bC BK137.out 2).trans rfl
     have hcz13_3 : w6.cell? ⟨gb137, 3, none⟩ = some (.int .i64 a0_3) := (bC BK137.out 3).trans rfl
     have hcz13_4 : w6.cell? ⟨gb137, 4, none⟩ = some (.string a0_4) := (bC BK137.out 4).trans rfl
     have hcz13_5 : w6.cell? ⟨gb137, 5, none⟩ = some (.slice A0_5 l0_5.length c0_5) := (bC BK137.out 5).trans rfl
     have hfz13_0 := bZ BK137.out 0
     have hfz13_1 := bZ BK137.out 1
     have hfz13_2 := bZ BK137.out 2
     have hfz13_3 := bZ BK137.out 3
     have hfz13_4 := bZ BK137.out 4
     have hfz13_5 := bZ BK137.out 5
     go_wp2_with (first | (go_at_call 66; (with_reducible refine (cubbyref07_Last.calls a0_0 t138 _ A11.out).mono ?_); rintro e w' ⟨rfl, ⟨nd, rfl⟩⟩; (try clear A11)))
     go_meet
     case rel => exact ⟨_, (true), (by first | rfl | (simp; done) | (simp [*]; done)), H', ⟨by first | omega | exact Nat.le_refl _⟩, ⟨by (with_reducible repeat (first | refine kN ?_ _ | refine blk_drew ?_ | refine kA ?_ _)); exact BK137.out⟩, ⟨by repeat (first | (with_reducible first | exact HB.out | apply bA | apply bN | apply bD | refine bS ?_ GE137.out) | exact HB.out)⟩⟩
    ·rw [if_neg c12] at H
     have c12b0 : (t138 != a3) = false := by simpa using c12
     (try (have c12b1 : decide (t138 = a3) = true := by simpa using c12))
     (try (have c12b2 : (t138 == a3) = true := by simpa using c12))
     clear c12
     replace H := Option.bind_eq_some_iff.mp H
     obtain ⟨t139, A140, H⟩ := H
     replace H : (cubbyref07_One.j0 k a1 a2 (!t139) a0_0 a0_1 a0_2 a0_3 a0_4 l0_5) = some r := H
     have A14 := Aside0.mk A140
     clear A140
     have H' := Aside0.mk H
     clear H
     have hcz15_0 : w6.cell? ⟨gb137, 0, none⟩ = some (.int .i64 a0_0) := (bC BK137.out 0).trans rfl
     have hcz15_1 : w6.cell? ⟨gb137, 1, none⟩ = some (.int .i64 a0_1) := (bC BK137.out 1).trans rfl
     have hcz15_2 : w6.cell? ⟨gb137, 2, none⟩ = some (.int .i64 a0_2) := (bC BK137.out 2).trans rfl
     have hcz15_3 : w6.cell? ⟨gb137, 3, none⟩ = some (.int .i64 a0_3) := (bC BK137.out 3).trans rfl
     have hcz15_4 : w6.cell? ⟨gb137, 4, none⟩ = some (.string a0_4) := (bC BK137.out 4).trans rfl
     have hcz15_5 : w6.cell? ⟨gb137, 5, none⟩ = some (.slice A0_5 l0_5.length c0_5) := (bC BK137.out 5).trans rfl
     have hfz15_0 := bZ BK137.out 0
     have hfz15_1 := bZ BK137.out 1
     have hfz15_2 := bZ BK137.out 2
     have hfz15_3 := bZ BK137.out 3
     have hfz15_4 := bZ BK137.out 4
     have hfz15_5 := bZ BK137.out 5
     go_wp2_with (first | (go_at_call 66; (with_reducible refine (cubbyref07_Last.calls a0_0 t138 _ A11.out).mono ?_); rintro e w' ⟨rfl, ⟨nd, rfl⟩⟩; (try clear A11)) | (go_at_call 67; (with_reducible refine (cubbyref07_bare.calls k a0_0 a0_1 a0_2 a0_3 a0_4 _ _ l0_5 t139 _ ?side1 ?side2 A14.out).mono ?_); (case side1 => repeat (first | exact (Kd.C_below HR0_5.out (by repeat (first | (with_reducible first | exact HB.out | apply bA | apply bN | apply bD | refine bS ?_ GE137.out) | exact HB.out))) | (with_reducible refine Kd.C_alloc ?_ _) | (with_reducible refine Kd.C_drewN ?_ _) | (with_reducible refine Kd.C_drew ?_))); (case side2 => exact HC0_5.out); rintro e w16 ⟨rfl, hb⟩; have n0_ := Aside0.mk (blk_below (g := gb137) (o := .cells #[.int .i64 a0_0, .int .i64 a0_1, .int .i64 a0_2, .int .i64 a0_3, .string a0_4, .slice A0_5 l0_5.length c0_5] 32 (0, 0)) (by (with_reducible repeat (first | refine kN ?_ _ | refine blk_drew ?_ | refine kA ?_ _)); exact BK137.out) hb); have n1_ := Aside0.mk (below_step (by repeat (first | (with_reducible first | exact HB.out | apply bA | apply bN | apply bD | refine bS ?_ GE137.out) | exact HB.out)) hb); clear BK137; clear HB; have BK137 := n0_; have HB := n1_; clear n0_ n1_; (try clear hb); (try clear hb2); (try clear hk); (try clear hi); (try clear A14)))
     go_meet
     case rel => exact ⟨_, (!t139), (by first | rfl | (simp; done) | (simp [*]; done)), H', ⟨by first | omega | exact Nat.le_refl _⟩, ⟨by (with_reducible repeat (first | refine kN ?_ _ | refine blk_drew ?_ | refine kA ?_ _)); exact BK137.out⟩, ⟨by repeat (first | (with_reducible first | exact HB.out | apply bA | apply bN | apply bD | refine bS ?_ GE137.out) | exact HB.out)⟩⟩
 case rest =>
  clear HC5
  try clear c1
  try clear p2
  try clear c3
  try clear c7
  try clear c7b0
  try clear c9
  try clear c9b0
  try clear c12
  try clear c12b0
  try clear c12b1
  try clear c12b2
  try clear hcz10_0
  try clear hcz10_1
  try clear hcz10_2
  try clear hcz10_3
  try clear hcz10_4
  try clear hcz10_5
  try clear hcz13_0
  try clear hcz13_1
  try clear hcz13_2
  try clear hcz13_3
  try clear hcz13_4
  try clear hcz13_5
  try clear hcz15_0
  try clear hcz15_1
  try clear hcz15_2
  try clear hcz15_3
  try clear hcz15_4
  try clear hcz15_5
  try clear hcz8_0
  try clear hcz8_1
  try clear hcz8_2
  try clear hcz8_3
  try clear hcz8_4
  try clear hcz8_5
  try clear hfz10_0
  try clear hfz10_1
  try clear hfz10_2
  try clear hfz10_3
  try clear hfz10_4
  try clear hfz10_5
  try clear hfz13_0
  try clear hfz13_1
  try clear hfz13_2
  try clear hfz13_3
  try clear hfz13_4
  try clear hfz13_5
  try clear hfz15_0
  try clear hfz15_1
  try clear hfz15_2
  try clear hfz15_3
  try clear hfz15_4
  try clear hfz15_5
  try clear hfz8_0
  try clear hfz8_1
  try clear hfz8_2
  try clear hfz8_3
  try clear hfz8_4
  try clear hfz8_5
  obtain ⟨kq, x28_4, rfl, HA, HJ4, BK137, HB⟩ := hcut
  cases kq with
  | zero => exact absurd HA.out (by simp [cubbyref07_One.j0])
  | succ kj4 =>
   have H := HA.out
   clear HA
   simp only [cubbyref07_One.j0] at H
   by_cases c17 : x28_4 = true
   ·subst c17
    have H1 : (some 72) = some r := by rw [if_pos rfl] at H; exact H
    clear H
    have H := H1
    clear H1
    obtain rfl := Option.some.inj H
    go_wp2
    go_ret
    exact ⟨by first | rfl | (simp [errW_none, errW_some] <;> rfl) | (simp [*, errW_none, errW_some] <;> rfl), by repeat (first | (with_reducible first | exact HB.out | apply bA | apply bN | apply bD | refine bS ?_ GE137.out) | exact HB.out)⟩
   ·replace c17 := Bool.eq_false_iff.mpr c17
    subst c17
    have H1 : ((cubbyref07_Def.f a0_0 a0_1 a0_2 a0_3 a0_4 l0_5).bind fun t140 => (if t140 = (-1) then ((cubbyref07_Uses.f kj4 a0_0 a0_1 a0_2 a0_3 a0_4 l0_5).bind fun t141 => ((cubbyref07_within.f kj4 t141 a1).bind fun t144 => (cubbyref07_One.j1 kj4 a2 (!t144) a0_0 a0_1 a0_2 a0_3 a0_4 l0_5))) else ((cubbyref07_Def.f a0_0 a0_1 a0_2 a0_3 a0_4 l0_5).bind fun t145 => (if t145 < 0 then (cubbyref07_One.j1 kj4 a2 true a0_0 a0_1 a0_2 a0_3 a0_4 l0_5) else ((cubbyref07_Def.f a0_0 a0_1 a0_2 a0_3 a0_4 l0_5).bind fun t146 => (if t146 ≥ a1 then (cubbyref07_One.j1 kj4 a2 true a0_0 a0_1 a0_2 a0_3 a0_4 l0_5) else ((cubbyref07_Uses.f kj4 a0_0 a0_1 a0_2 a0_3 a0_4 l0_5).bind fun t147 => ((cubbyref07_within.f kj4 t147 a1).bind fun t150 => (cubbyref07_One.j1 kj4 a2 (!t150) a0_0 a0_1 a0_2 a0_3 a0_4 l0_5))))))))) = some r := by rw [if_neg (show ¬ (false = true) by decide)] at H; exact H
    clear H
    have H := H1
    clear H1
    have HC18 := Aside0.mk H
    clear H
    go_upto_region 3 with (fail)
    go_cut [49] (fun v49 wc => ∃ (kq : Nat) (x49_17 : Bool), v49 = .bool x49_17 ∧ Aside0 (cubbyref07_One.j1 kq a2 x49_17 a0_0 a0_1 a0_2 a0_3 a0_4 l0_5 = some r) ∧ Aside0 (kq ≤ kj4) ∧ Aside0 (wc.heap[gb137]? = some (.cells #[.int .i64 a0_0, .int .i64 a0_1, .int .i64 a0_2, .int .i64 a0_3, .string a0_4, (.slice A0_5 l0_5.length c0_5)] 32 (0, 0))) ∧ Aside0 (Below w.heap.size w wc))
    case first =>
     have H := HC18.out
     clear HC18
     replace H := Option.bind_eq_some_iff.mp H
     obtain ⟨t140, A190, H⟩ := H
     replace H : (if t140 = (-1) then ((cubbyref07_Uses.f kj4 a0_0 a0_1 a0_2 a0_3 a0_4 l0_5).bind fun t141 => ((cubbyref07_within.f kj4 t141 a1).bind fun t144 => (cubbyref07_One.j1 kj4 a2 (!t144) a0_0 a0_1 a0_2 a0_3 a0_4 l0_5))) else ((cubbyref07_Def.f a0_0 a0_1 a0_2 a0_3 a0_4 l0_5).bind fun t145 => (if t145 < 0 then (cubbyref07_One.j1 kj4 a2 true a0_0 a0_1 a0_2 a0_3 a0_4 l0_5) else ((cubbyref07_Def.f a0_0 a0_1 a0_2 a0_3 a0_4 l0_5).bind fun t146 => (if t146 ≥ a1 then (cubbyref07_One.j1 kj4 a2 true a0_0 a0_1 a0_2 a0_3 a0_4 l0_5) else ((cubbyref07_Uses.f kj4 a0_0 a0_1 a0_2 a0_3 a0_4 l0_5).bind fun t147 => ((cubbyref07_within.f kj4 t147 a1).bind fun t150 => (cubbyref07_One.j1 kj4 a2 (!t150) a0_0 a0_1 a0_2 a0_3 a0_4 l0_5)))))))) = some r := H
     have A19 := Aside0.mk A190
     clear A190
     by_cases c20 : t140 = (-1)
     ·rw [if_pos c20] at H
      have c20b0 : (t140 == (-1)) = true := beq_iff_eq.mpr c20
      have c20b1 : (t140 != (-1)) = false := bne_eq_false_iff_eq.mpr c20
      clear c20
      (first | rw [c20b0] | (simp only [i64_w]; rw [c20b0]) | skip)
      replace H := Option.bind_eq_some_iff.mp H
      obtain ⟨t141, A210, H⟩ := H
      replace H : ((cubbyref07_within.f kj4 t141 a1).bind fun t144 => (cubbyref07_One.j1 kj4 a2 (!t144) a0_0 a0_1 a0_2 a0_3 a0_4 l0_5)) = some r := H
      have A21 := Aside0.mk A210
      clear A210
      replace H := Option.bind_eq_some_iff.mp H
      obtain ⟨t144, A220, H⟩ := H
      replace H : (cubbyref07_One.j1 kj4 a2 (!t144) a0_0 a0_1 a0_2 a0_3 a0_4 l0_5) = some r := H
      have A22 := Aside0.mk A220
      clear A220
      have H' := Aside0.mk H
      clear H
      have hcz23_0 : wc.cell? ⟨gb137, 0, none⟩ = some (.int .i64 a0_0) := (bC BK137.out 0).trans rfl
      have hcz23_1 : wc.cell? ⟨gb137, 1, none⟩ = some (.int .i64 a0_1) := (bC BK137.out 1).trans rfl
      have hcz23_2 : wc.cell? ⟨gb137, 2, none⟩ = some (.int .i64 a0_2) := (bC BK137.out 2).trans rfl
      have hcz23_3 : wc.cell? ⟨gb137, 3, none⟩ = some (.int .i64 a0_3) := (bC BK137.out 3).trans rfl
      have hcz23_4 : wc.cell? ⟨gb137, 4, none⟩ = some (.string a0_4) := (bC BK137.out 4).trans rfl
      have hcz23_5 : wc.cell? ⟨gb137, 5, none⟩ = some (.slice A0_5 l0_5.length c0_5) := (bC BK137.out 5).trans rfl
      have hfz23_0 := bZ BK137.out 0
      have hfz23_1 := bZ BK137.out 1
      have hfz23_2 := bZ BK137.out 2
      have hfz23_3 := bZ BK137.out 3
      have hfz23_4 := bZ BK137.out 4
      have hfz23_5 := bZ BK137.out 5
      go_wp2_with (first | ((with_reducible refine gate_callee (f := 61) rfl ?_); refine goesL_ (some 30) rfl rfl Tryd.func61 (by kernel_rfl) rfl #[.agg #[.int .i64 a0_0, .int .i64 a0_1, .int .i64 a0_2, .int .i64 a0_3, .string a0_4, .slice A0_5 l0_5.length c0_5]] rfl (by (try simp only [List.map_toArray, List.map_cons, List.map_nil]); first | done | rfl | (simp only [List.length_drop, List.length_take]; rfl)) ?_; (with_reducible refine (cubbyref07_Def.calls a0_0 a0_1 a0_2 a0_3 a0_4 _ _ l0_5 t140 _ ?side1 ?side2 A19.out).mono ?_); (case side1 => repeat (first | exact (Kd.C_below HR0_5.out HB.out) | (with_reducible refine Kd.C_alloc ?_ _) | (with_reducible refine Kd.C_drewN ?_ _) | (with_reducible refine Kd.C_drew ?_))); (case side2 => exact HC0_5.out); rintro e w24 ⟨rfl, hb⟩; refine ⟨_, rfl, ?_⟩; have n0_ := Aside0.mk (blk_below (g := gb137) (o := .cells #[.int .i64 a0_0, .int .i64 a0_1, .int .i64 a0_2, .int .i64 a0_3, .string a0_4, .slice A0_5 l0_5.length c0_5] 32 (0, 0)) (by (with_reducible repeat (first | refine kN ?_ _ | refine blk_drew ?_ | refine kA ?_ _)); exact BK137.out) hb); have n1_ := Aside0.mk (below_step (by repeat (first | (with_reducible first | exact HB.out | apply bA | apply bN | apply bD | refine bS ?_ GE137.out) | exact HB.out)) hb); clear BK137; clear HB; have BK137 := n0_; have HB := n1_; clear n0_ n1_; (try clear hb); (try clear hb2); (try clear hk); (try clear hi); have hcz25_0 : w24.cell? ⟨gb137, 0, none⟩ = some (.int .i64 a0_0) := (bC BK137.out 0).trans rfl; have hcz25_1 : w24.cell? ⟨gb137, 1, none⟩ = some (.int .i64 a0_1) := (bC BK137.out 1).trans rfl; have hcz25_2 : w24.cell? ⟨gb137, 2, none⟩ = some (.int .i64 a0_2) := (bC BK137.out 2).trans rfl; have hcz25_3 : w24.cell? ⟨gb137, 3, none⟩ = some (.int .i64 a0_3) := (bC BK137.out 3).trans rfl; have hcz25_4 : w24.cell? ⟨gb137, 4, none⟩ = some (.string a0_4) := (bC BK137.out 4).trans rfl; have hcz25_5 : w24.cell? ⟨gb137, 5, none⟩ = some (.slice A0_5 l0_5.length c0_5) := (bC BK137.out 5).trans rfl; have hfz25_0 := bZ BK137.out 0; have hfz25_1 := bZ BK137.out 1; have hfz25_2 := bZ BK137.out 2; have hfz25_3 := bZ BK137.out 3; have hfz25_4 := bZ BK137.out 4; have hfz25_5 := bZ BK137.out 5) | (go_at_call 69; (with_reducible refine (cubbyref07_Uses.calls kj4 a0_0 a0_1 a0_2 a0_3 a0_4 _ _ l0_5 t141 _ ?side1 ?side2 A21.out).mono ?_); (case side1 => repeat (first | exact (Kd.C_below HR0_5.out HB.out) | (with_reducible refine Kd.C_alloc ?_ _) | (with_reducible refine Kd.C_drewN ?_ _) | (with_reducible refine Kd.C_drew ?_))); (case side2 => exact HC0_5.out); rintro e w26 ⟨v142, rfl, ho0, hb⟩; have n0_ := Aside0.mk (Kd.R_lower ho0 (below_size (by repeat (first | (with_reducible first | exact HB.out | apply bA | apply bN | apply bD | refine bS ?_ GE137.out) | exact HB.out)))); have n1_ := Aside0.mk (blk_below (g := gb137) (o := .cells #[.int .i64 a0_0, .int .i64 a0_1, .int .i64 a0_2, .int .i64 a0_3, .string a0_4, .slice A0_5 l0_5.length c0_5] 32 (0, 0)) (by (with_reducible repeat (first | refine kN ?_ _ | refine blk_drew ?_ | refine kA ?_ _)); exact BK137.out) hb); have n2_ := Aside0.mk (below_step (by repeat (first | (with_reducible first | exact HB.out | apply bA | apply bN | apply bD | refine bS ?_ GE137.out) | exact HB.out)) hb); clear BK137; clear HB; have HO143 := n0_; have BK137 := n1_; have HB := n2_; clear n0_ n1_ n2_; (try clear hb); (try clear hb2); (try clear hk); (try clear hi); (try clear ho0); (try clear A21); obtain ⟨Ao27, co27, eo27⟩ := Kd.R_slice HO143.out; subst eo27) | (go_at_call 68; (with_reducible refine (cubbyref07_within.calls kj4 _ _ t141 a1 t144 _ ?side1 ?side2 A22.out).mono ?_); (case side1 => repeat (first | exact (Kd.R_reads' HO143.out).2.2 | (with_reducible refine Kd.C_alloc ?_ _) | (with_reducible refine Kd.C_drewN ?_ _) | (with_reducible refine Kd.C_drew ?_))); (case side2 => exact (Kd.R_reads' HO143.out).2.1); rintro e w' ⟨rfl, ⟨nd, rfl⟩⟩; (try clear A22)))
      go_meet
      case rel => exact ⟨_, (!t144), (by first | rfl | (simp; done) | (simp [*]; done)), H', ⟨by have := HJ4.out; first | omega | exact Nat.le_refl _⟩, ⟨by (with_reducible repeat (first | refine kN ?_ _ | refine blk_drew ?_ | refine kA ?_ _)); exact BK137.out⟩, ⟨by repeat (first | (with_reducible first | exact HB.out | apply bA | apply bN | apply bD | refine bS ?_ GE137.out) | exact HB.out)⟩⟩
     ·rw [if_neg c20] at H
      have c20b0 : (t140 == (-1)) = false := beq_eq_false_iff_ne.mpr c20
      have c20b1 : (t140 != (-1)) = true := bne_iff_ne.mpr c20
      (first | rw [c20b0] | (simp only [i64_w]; rw [c20b0]) | skip)
      replace H := Option.bind_eq_some_iff.mp H
      obtain ⟨t145, A280, H⟩ := H
      replace H : (if t145 < 0 then (cubbyref07_One.j1 kj4 a2 true a0_0 a0_1 a0_2 a0_3 a0_4 l0_5) else ((cubbyref07_Def.f a0_0 a0_1 a0_2 a0_3 a0_4 l0_5).bind fun t146 => (if t146 ≥ a1 then (cubbyref07_One.j1 kj4 a2 true a0_0 a0_1 a0_2 a0_3 a0_4 l0_5) else ((cubbyref07_Uses.f kj4 a0_0 a0_1 a0_2 a0_3 a0_4 l0_5).bind fun t147 => ((cubbyref07_within.f kj4 t147 a1).bind fun t150 => (cubbyref07_One.j1 kj4 a2 (!t150) a0_0 a0_1 a0_2 a0_3 a0_4 l0_5)))))) = some r := H
      have A28 := Aside0.mk A280
      clear A280
      by_cases c29 : t145 < 0
      ·rw [if_pos c29] at H
       have c29b0 : decide (t145 < 0) = true := decide_eq_true c29
       clear c29
       have H' := Aside0.mk H
       clear H
       have hcz30_0 : wc.cell? ⟨gb137, 0, none⟩ = some (.int .i64 a0_0) := (bC BK137.out 0).trans rfl
       have hcz30_1 : wc.cell? ⟨gb137, 1, none⟩ = some (.int .i64 a0_1) := (bC BK137.out 1).trans rfl
       have hcz30_2 : wc.cell? ⟨gb137, 2, none⟩ = some (.int .i64 a0_2) := (bC BK137.out 2).trans rfl
       have hcz30_3 : wc.cell? ⟨gb137, 3, none⟩ = some (.int .i64 a0_3) := (bC BK137.out 3).trans rfl
       have hcz30_4 : wc.cell? ⟨gb137, 4, none⟩ = some (.string a0_4) := (bC BK137.out 4).trans rfl
       have hcz30_5 : wc.cell? ⟨gb137, 5, none⟩ = some (.slice A0_5 l0_5.length c0_5) := (bC BK137.out 5).trans rfl
       have hfz30_0 := bZ BK137.out 0
       have hfz30_1 := bZ BK137.out 1
       have hfz30_2 := bZ BK137.out 2
       have hfz30_3 := bZ BK137.out 3
       have hfz30_4 := bZ BK137.out 4
       have hfz30_5 := bZ BK137.out 5
       go_wp2_with (first | ((with_reducible refine gate_callee (f := 61) rfl ?_); refine goesL_ (some 30) rfl rfl Tryd.func61 (by kernel_rfl) rfl #[.agg #[.int .i64 a0_0, .int .i64 a0_1, .int .i64 a0_2, .int .i64 a0_3, .string a0_4, .slice A0_5 l0_5.length c0_5]] rfl (by (try simp only [List.map_toArray, List.map_cons, List.map_nil]); first | done | rfl | (simp only [List.length_drop, List.length_take]; rfl)) ?_; (with_reducible refine (cubbyref07_Def.calls a0_0 a0_1 a0_2 a0_3 a0_4 _ _ l0_5 t140 _ ?side1 ?side2 A19.out).mono ?_); (case side1 => repeat (first | exact (Kd.C_below HR0_5.out HB.out) | (with_reducible refine Kd.C_alloc ?_ _) | (with_reducible refine Kd.C_drewN ?_ _) | (with_reducible refine Kd.C_drew ?_))); (case side2 => exact HC0_5.out); rintro e w31 ⟨rfl, hb⟩; refine ⟨_, rfl, ?_⟩; have n0_ := Aside0.mk (blk_below (g := gb137) (o := .cells #[.int .i64 a0_0, .int .i64 a0_1, .int .i64 a0_2, .int .i64 a0_3, .string a0_4, .slice A0_5 l0_5.length c0_5] 32 (0, 0)) (by (with_reducible repeat (first | refine kN ?_ _ | refine blk_drew ?_ | refine kA ?_ _)); exact BK137.out) hb); have n1_ := Aside0.mk (below_step (by repeat (first | (with_reducible first | exact HB.out | apply bA | apply bN | apply bD | refine bS ?_ GE137.out) | exact HB.out)) hb); clear BK137; clear HB; have BK137 := n0_; have HB := n1_; clear n0_ n1_; (try clear hb); (try clear hb2); (try clear hk); (try clear hi); have hcz32_0 : w31.cell? ⟨gb137, 0, none⟩ = some (.int .i64 a0_0) := (bC BK137.out 0).trans rfl; have hcz32_1 : w31.cell? ⟨gb137, 1, none⟩ = some (.int .i64 a0_1) := (bC BK137.out 1).trans rfl; have hcz32_2 : w31.cell? ⟨gb137, 2, none⟩ = some (.int .i64 a0_2) := (bC BK137.out 2).trans rfl; have hcz32_3 : w31.cell? ⟨gb137, 3, none⟩ = some (.int .i64 a0_3) := (bC BK137.out 3).trans rfl; have hcz32_4 : w31.cell? ⟨gb137, 4, none⟩ = some (.string a0_4) := (bC BK137.out 4).trans rfl; have hcz32_5 : w31.cell? ⟨gb137, 5, none⟩ = some (.slice A0_5 l0_5.length c0_5) := (bC BK137.out 5).trans rfl; have hfz32_0 := bZ BK137.out 0; have hfz32_1 := bZ BK137.out 1; have hfz32_2 := bZ BK137.out 2; have hfz32_3 := bZ BK137.out 3; have hfz32_4 := bZ BK137.out 4; have hfz32_5 := bZ BK137.out 5) | (go_at_call 61; (with_reducible refine (cubbyref07_Def.calls a0_0 a0_1 a0_2 a0_3 a0_4 _ _ l0_5 t145 _ ?side1 ?side2 A28.out).mono ?_); (case side1 => repeat (first | exact (Kd.C_below HR0_5.out HB.out) | (with_reducible refine Kd.C_alloc ?_ _) | (with_reducible refine Kd.C_drewN ?_ _) | (with_reducible refine Kd.C_drew ?_))); (case side2 => exact HC0_5.out); rintro e w33 ⟨rfl, hb⟩; have n0_ := Aside0.mk (blk_below (g := gb137) (o := .cells #[.int .i64 a0_0, .int .i64 a0_1, .int .i64 a0_2, .int .i64 a0_3, .string a0_4, .slice A0_5 l0_5.length c0_5] 32 (0, 0)) (by (with_reducible repeat (first | refine kN ?_ _ | refine blk_drew ?_ | refine kA ?_ _)); exact BK137.out) hb); have n1_ := Aside0.mk (below_step (by repeat (first | (with_reducible first | exact HB.out | apply bA | apply bN | apply bD | refine bS ?_ GE137.out) | exact HB.out)) hb); clear BK137; clear HB; have BK137 := n0_; have HB := n1_; clear n0_ n1_; (try clear hb); (try clear hb2); (try clear hk); (try clear hi); (try clear A28)))
       go_meet
       case rel => exact ⟨_, (true), (by first | rfl | (simp; done) | (simp [*]; done)), H', ⟨by have := HJ4.out; first | omega | exact Nat.le_refl _⟩, ⟨by (with_reducible repeat (first | refine kN ?_ _ | refine blk_drew ?_ | refine kA ?_ _)); exact BK137.out⟩, ⟨by repeat (first | (with_reducible first | exact HB.out | apply bA | apply bN | apply bD | refine bS ?_ GE137.out) | exact HB.out)⟩⟩
      ·rw [if_neg c29] at H
       have c29b0 : decide (t145 < 0) = false := decide_eq_false c29
       clear c29
       replace H := Option.bind_eq_some_iff.mp H
       obtain ⟨t146, A340, H⟩ := H
       replace H : (if t146 ≥ a1 then (cubbyref07_One.j1 kj4 a2 true a0_0 a0_1 a0_2 a0_3 a0_4 l0_5) else ((cubbyref07_Uses.f kj4 a0_0 a0_1 a0_2 a0_3 a0_4 l0_5).bind fun t147 => ((cubbyref07_within.f kj4 t147 a1).bind fun t150 => (cubbyref07_One.j1 kj4 a2 (!t150) a0_0 a0_1 a0_2 a0_3 a0_4 l0_5)))) = some r := H
       have A34 := Aside0.mk A340
       clear A340
       by_cases c35 : t146 ≥ a1
       ·rw [if_pos c35] at H
        have c35b0 : decide (a1 ≤ t146) = true := decide_eq_true c35
        clear c35
        have H' := Aside0.mk H
        clear H
        have hcz36_0 : wc.cell? ⟨gb137, 0, none⟩ = some (.int .i64 a0_0) := (bC BK137.out 0).trans rfl
        have hcz36_1 : wc.cell? ⟨gb137, 1, none⟩ = some (.int .i64 a0_1) := (bC BK137.out 1).trans rfl
        have hcz36_2 : wc.cell? ⟨gb137, 2, none⟩ = some (.int .i64 a0_2) := (bC BK137.out 2).trans rfl
        have hcz36_3 : wc.cell? ⟨gb137, 3, none⟩ = some (.int .i64 a0_3) := (bC BK137.out 3).trans rfl
        have hcz36_4 : wc.cell? ⟨gb137, 4, none⟩ = some (.string a0_4) := (bC BK137.out 4).trans rfl
        have hcz36_5 : wc.cell? ⟨gb137, 5, none⟩ = some (.slice A0_5 l0_5.length c0_5) := (bC BK137.out 5).trans rfl
        have hfz36_0 := bZ BK137.out 0
        have hfz36_1 := bZ BK137.out 1
        have hfz36_2 := bZ BK137.out 2
        have hfz36_3 := bZ BK137.out 3
        have hfz36_4 := bZ BK137.out 4
        have hfz36_5 := bZ BK137.out 5
        go_wp2_with (first | ((with_reducible refine gate_callee (f := 61) rfl ?_); refine goesL_ (some 30) rfl rfl Tryd.func61 (by kernel_rfl) rfl #[.agg #[.int .i64 a0_0, .int .i64 a0_1, .int .i64 a0_2, .int .i64 a0_3, .string a0_4, .slice A0_5 l0_5.length c0_5]] rfl (by (try simp only [List.map_toArray, List.map_cons, List.map_nil]); first | done | rfl | (simp only [List.length_drop, List.length_take]; rfl)) ?_; (with_reducible refine (cubbyref07_Def.calls a0_0 a0_1 a0_2 a0_3 a0_4 _ _ l0_5 t140 _ ?side1 ?side2 A19.out).mono ?_); (case side1 => repeat (first | exact (Kd.C_below HR0_5.out HB.out) | (with_reducible refine Kd.C_alloc ?_ _) | (with_reducible refine Kd.C_drewN ?_ _) | (with_reducible refine Kd.C_drew ?_))); (case side2 => exact HC0_5.out); rintro e w37 ⟨rfl, hb⟩; refine ⟨_, rfl, ?_⟩; have n0_ := Aside0.mk (blk_below (g := gb137) (o := .cells #[.int .i64 a0_0, .int .i64 a0_1, .int .i64 a0_2, .int .i64 a0_3, .string a0_4, .slice A0_5 l0_5.length c0_5] 32 (0, 0)) (by (with_reducible repeat (first | refine kN ?_ _ | refine blk_drew ?_ | refine kA ?_ _)); exact BK137.out) hb); have n1_ := Aside0.mk (below_step (by repeat (first | (with_reducible first | exact HB.out | apply bA | apply bN | apply bD | refine bS ?_ GE137.out) | exact HB.out)) hb); clear BK137; clear HB; have BK137 := n0_; have HB := n1_; clear n0_ n1_; (try clear hb); (try clear hb2); (try clear hk); (try clear hi); have hcz38_0 : w37.cell? ⟨gb137, 0, none⟩ = some (.int .i64 a0_0) := (bC BK137.out 0).trans rfl; have hcz38_1 : w37.cell? ⟨gb137, 1, none⟩ = some (.int .i64 a0_1) := (bC BK137.out 1).trans rfl; have hcz38_2 : w37.cell? ⟨gb137, 2, none⟩ = some (.int .i64 a0_2) := (bC BK137.out 2).trans rfl; have hcz38_3 : w37.cell? ⟨gb137, 3, none⟩ = some (.int .i64 a0_3) := (bC BK137.out 3).trans rfl; have hcz38_4 : w37.cell? ⟨gb137, 4, none⟩ = some (.string a0_4) := (bC BK137.out 4).trans rfl; have hcz38_5 : w37.cell? ⟨gb137, 5, none⟩ = some (.slice A0_5 l0_5.length c0_5) := (bC BK137.out 5).trans rfl; have hfz38_0 := bZ BK137.out 0; have hfz38_1 := bZ BK137.out 1; have hfz38_2 := bZ BK137.out 2; have hfz38_3 := bZ BK137.out 3; have hfz38_4 := bZ BK137.out 4; have hfz38_5 := bZ BK137.out 5) | (go_at_call 61; (with_reducible refine (cubbyref07_Def.calls a0_0 a0_1 a0_2 a0_3 a0_4 _ _ l0_5 t145 _ ?side1 ?side2 A28.out).mono ?_); (case side1 => repeat (first | exact (Kd.C_below HR0_5.out HB.out) | (with_reducible refine Kd.C_alloc ?_ _) | (with_reducible refine Kd.C_drewN ?_ _) | (with_reducible refine Kd.C_drew ?_))); (case side2 => exact HC0_5.out); rintro e w39 ⟨rfl, hb⟩; have n0_ := Aside0.mk (blk_below (g := gb137) (o := .cells #[.int .i64 a0_0, .int .i64 a0_1, .int .i64 a0_2, .int .i64 a0_3, .string a0_4, .slice A0_5 l0_5.length c0_5] 32 (0, 0)) (by (with_reducible repeat (first | refine kN ?_ _ | refine blk_drew ?_ | refine kA ?_ _)); exact BK137.out) hb); have n1_ := Aside0.mk (below_step (by repeat (first | (with_reducible first | exact HB.out | apply bA | apply bN | apply bD | refine bS ?_ GE137.out) | exact HB.out)) hb); clear BK137; clear HB; have BK137 := n0_; have HB := n1_; clear n0_ n1_; (try clear hb); (try clear hb2); (try clear hk); (try clear hi); (try clear A28); have hcz40_0 : w39.cell? ⟨gb137, 0, none⟩ = some (.int .i64 a0_0) := (bC BK137.out 0).trans rfl; have hcz40_1 : w39.cell? ⟨gb137, 1, none⟩ = some (.int .i64 a0_1) := (bC BK137.out 1).trans rfl; have hcz40_2 : w39.cell? ⟨gb137, 2, none⟩ = some (.int .i64 a0_2) := (bC BK137.out 2).trans rfl; have hcz40_3 : w39.cell? ⟨gb137, 3, none⟩ = some (.int .i64 a0_3) := (bC BK137.out 3).trans rfl; have hcz40_4 : w39.cell? ⟨gb137, 4, none⟩ = some (.string a0_4) := (bC BK137.out 4).trans rfl; have hcz40_5 : w39.cell? ⟨gb137, 5, none⟩ = some (.slice A0_5 l0_5.length c0_5) := (bC BK137.out 5).trans rfl; have hfz40_0 := bZ BK137.out 0; have hfz40_1 := bZ BK137.out 1; have hfz40_2 := bZ BK137.out 2; have hfz40_3 := bZ BK137.out 3; have hfz40_4 := bZ BK137.out 4; have hfz40_5 := bZ BK137.out 5) | (go_at_call 61; (with_reducible refine (cubbyref07_Def.calls a0_0 a0_1 a0_2 a0_3 a0_4 _ _ l0_5 t146 _ ?side1 ?side2 A34.out).mono ?_); (case side1 => repeat (first | exact (Kd.C_below HR0_5.out HB.out) | (with_reducible refine Kd.C_alloc ?_ _) | (with_reducible refine Kd.C_drewN ?_ _) | (with_reducible refine Kd.C_drew ?_))); (case side2 => exact HC0_5.out); rintro e w41 ⟨rfl, hb⟩; have n0_ := Aside0.mk (blk_below (g := gb137) (o := .cells #[.int .i64 a0_0, .int .i64 a0_1, .int .i64 a0_2, .int .i64 a0_3, .string a0_4, .slice A0_5 l0_5.length c0_5] 32 (0, 0)) (by (with_reducible repeat (first | refine kN ?_ _ | refine blk_drew ?_ | refine kA ?_ _)); exact BK137.out) hb); have n1_ := Aside0.mk (below_step (by repeat (first | (with_reducible first | exact HB.out | apply bA | apply bN | apply bD | refine bS ?_ GE137.out) | exact HB.out)) hb); clear BK137; clear HB; have BK137 := n0_; have HB := n1_; clear n0_ n1_; (try clear hb); (try clear hb2); (try clear hk); (try clear hi); (try clear A34)))
        go_meet
        case rel => exact ⟨_, (true), (by first | rfl | (simp; done) | (simp [*]; done)), H', ⟨by have := HJ4.out; first | omega | exact Nat.le_refl _⟩, ⟨by (with_reducible repeat (first | refine kN ?_ _ | refine blk_drew ?_ | refine kA ?_ _)); exact BK137.out⟩, ⟨by repeat (first | (with_reducible first | exact HB.out | apply bA | apply bN | apply bD | refine bS ?_ GE137.out) | exact HB.out)⟩⟩
       ·rw [if_neg c35] at H
        have c35b0 : decide (a1 ≤ t146) = false := decide_eq_false c35
        clear c35
        replace H := Option.bind_eq_some_iff.mp H
        obtain ⟨t147, A420, H⟩ := H
        replace H : ((cubbyref07_within.f kj4 t147 a1).bind fun t150 => (cubbyref07_One.j1 kj4 a2 (!t150) a0_0 a0_1 a0_2 a0_3 a0_4 l0_5)) = some r := H
        have A42 := Aside0.mk A420
        clear A420
        replace H := Option.bind_eq_some_iff.mp H
        obtain ⟨t150, A430, H⟩ := H
        replace H : (cubbyref07_One.j1 kj4 a2 (!t150) a0_0 a0_1 a0_2 a0_3 a0_4 l0_5) = some r := H
        have A43 := Aside0.mk A430
        clear A430
        have H' := Aside0.mk H
        clear H
        have hcz44_0 : wc.cell? ⟨gb137, 0, none⟩ = some (.int .i64 a0_0) := (bC BK137.out 0).trans rfl
        have hcz44_1 : wc.cell? ⟨gb137, 1, none⟩ = some (.int .i64 a0_1) := (bC BK137.out 1).trans rfl
        have hcz44_2 : wc.cell? ⟨gb137, 2, none⟩ = some (.int .i64 a0_2) := (bC BK137.out 2).trans rfl
        have hcz44_3 : wc.cell? ⟨gb137, 3, none⟩ = some (.int .i64 a0_3) := (bC BK137.out 3).trans rfl
        have hcz44_4 : wc.cell? ⟨gb137, 4, none⟩ = some (.string a0_4) := (bC BK137.out 4).trans rfl
        have hcz44_5 : wc.cell? ⟨gb137, 5, none⟩ = some (.slice A0_5 l0_5.length c0_5) := (bC BK137.out 5).trans rfl
        have hfz44_0 := bZ BK137.out 0
        have hfz44_1 := bZ BK137.out 1
        have hfz44_2 := bZ BK137.out 2
        have hfz44_3 := bZ BK137.out 3
        have hfz44_4 := bZ BK137.out 4
        have hfz44_5 := bZ BK137.out 5
        go_wp2_with (first | ((with_reducible refine gate_callee (f := 61) rfl ?_); refine goesL_ (some 30) rfl rfl Tryd.func61 (by kernel_rfl) rfl #[.agg #[.int .i64 a0_0, .int .i64 a0_1, .int .i64 a0_2, .int .i64 a0_3, .string a0_4, .slice A0_5 l0_5.length c0_5]] rfl (by (try simp only [List.map_toArray, List.map_cons, List.map_nil]); first | done | rfl | (simp only [List.length_drop, List.length_take]; rfl)) ?_; (with_reducible refine (cubbyref07_Def.calls a0_0 a0_1 a0_2 a0_3 a0_4 _ _ l0_5 t140 _ ?side1 ?side2 A19.out).mono ?_); (case side1 => repeat (first | exact (Kd.C_below HR0_5.out HB.out) | (with_reducible refine Kd.C_alloc ?_ _) | (with_reducible refine Kd.C_drewN ?_ _) | (with_reducible refine Kd.C_drew ?_))); (case side2 => exact HC0_5.out); rintro e w45 ⟨rfl, hb⟩; refine ⟨_, rfl, ?_⟩; have n0_ := Aside0.mk (blk_below (g := gb137) (o := .cells #[.int .i64 a0_0, .int .i64 a0_1, .int .i64 a0_2, .int .i64 a0_3, .string a0_4, .slice A0_5 l0_5.length c0_5] 32 (0, 0)) (by (with_reducible repeat (first | refine kN ?_ _ | refine blk_drew ?_ | refine kA ?_ _)); exact BK137.out) hb); have n1_ := Aside0.mk (below_step (by repeat (first | (with_reducible first | exact HB.out | apply bA | apply bN | apply bD | refine bS ?_ GE137.out) | exact HB.out)) hb); clear BK137; clear HB; have BK137 := n0_; have HB := n1_; clear n0_ n1_; (try clear hb); (try clear hb2); (try clear hk); (try clear hi); have hcz46_0 : w45.cell? ⟨gb137, 0, none⟩ = some (.int .i64 a0_0) := (bC BK137.out 0).trans rfl; have hcz46_1 : w45.cell? ⟨gb137, 1, none⟩ = some (.int .i64 a0_1) := (bC BK137.out 1).trans rfl; have hcz46_2 : w45.cell? ⟨gb137, 2, none⟩ = some (.int .i64 a0_2) := (bC BK137.out 2).trans rfl; have hcz46_3 : w45.cell? ⟨gb137, 3, none⟩ = some (.int .i64 a0_3) := (bC BK137.out 3).trans rfl; have hcz46_4 : w45.cell? ⟨gb137, 4, none⟩ = some (.string a0_4) := (bC BK137.out 4).trans rfl; have hcz46_5 : w45.cell? ⟨gb137, 5, none⟩ = some (.slice A0_5 l0_5.length c0_5) := (bC BK137.out 5).trans rfl; have hfz46_0 := bZ BK137.out 0; have hfz46_1 := bZ BK137.out 1; have hfz46_2 := bZ BK137.out 2; have hfz46_3 := bZ BK137.out 3; have hfz46_4 := bZ BK137.out 4; have hfz46_5 := bZ BK137.out 5) | (go_at_call 61; (with_reducible refine (cubbyref07_Def.calls a0_0 a0_1 a0_2 a0_3 a0_4 _ _ l0_5 t145 _ ?side1 ?side2 A28.out).mono ?_); (case side1 => repeat (first | exact (Kd.C_below HR0_5.out HB.out) | (with_reducible refine Kd.C_alloc ?_ _) | (with_reducible refine Kd.C_drewN ?_ _) | (with_reducible refine Kd.C_drew ?_))); (case side2 => exact HC0_5.out); rintro e w47 ⟨rfl, hb⟩; have n0_ := Aside0.mk (blk_below (g := gb137) (o := .cells #[.int .i64 a0_0, .int .i64 a0_1, .int .i64 a0_2, .int .i64 a0_3, .string a0_4, .slice A0_5 l0_5.length c0_5] 32 (0, 0)) (by (with_reducible repeat (first | refine kN ?_ _ | refine blk_drew ?_ | refine kA ?_ _)); exact BK137.out) hb); have n1_ := Aside0.mk (below_step (by repeat (first | (with_reducible first | exact HB.out | apply bA | apply bN | apply bD | refine bS ?_ GE137.out) | exact HB.out)) hb); clear BK137; clear HB; have BK137 := n0_; have HB := n1_; clear n0_ n1_; (try clear hb); (try clear hb2); (try clear hk); (try clear hi); (try clear A28); have hcz48_0 : w47.cell? ⟨gb137, 0, none⟩ = some (.int .i64 a0_0) := (bC BK137.out 0).trans rfl; have hcz48_1 : w47.cell? ⟨gb137, 1, none⟩ = some (.int .i64 a0_1) := (bC BK137.out 1).trans rfl; have hcz48_2 : w47.cell? ⟨gb137, 2, none⟩ = some (.int .i64 a0_2) := (bC BK137.out 2).trans rfl; have hcz48_3 : w47.cell? ⟨gb137, 3, none⟩ = some (.int .i64 a0_3) := (bC BK137.out 3).trans rfl; have hcz48_4 : w47.cell? ⟨gb137, 4, none⟩ = some (.string a0_4) := (bC BK137.out 4).trans rfl; have hcz48_5 : w47.cell? ⟨gb137, 5, none⟩ = some (.slice A0_5 l0_5.length c0_5) := (bC BK137.out 5).trans rfl; have hfz48_0 := bZ BK137.out 0; have hfz48_1 := bZ BK137.out 1; have hfz48_2 := bZ BK137.out 2; have hfz48_3 := bZ BK137.out 3; have hfz48_4 := bZ BK137.out 4; have hfz48_5 := bZ BK137.out 5) | (go_at_call 61; (with_reducible refine (cubbyref07_Def.calls a0_0 a0_1 a0_2 a0_3 a0_4 _ _ l0_5 t146 _ ?side1 ?side2 A34.out).mono ?_); (case side1 => repeat (first | exact (Kd.C_below HR0_5.out HB.out) | (with_reducible refine Kd.C_alloc ?_ _) | (with_reducible refine Kd.C_drewN ?_ _) | (with_reducible refine Kd.C_drew ?_))); (case side2 => exact HC0_5.out); rintro e w49 ⟨rfl, hb⟩; have n0_ := Aside0.mk (blk_below (g := gb137) (o := .cells #[.int .i64 a0_0, .int .i64 a0_1, .int .i64 a0_2, .int .i64 a0_3, .string a0_4, .slice A0_5 l0_5.length c0_5] 32 (0, 0)) (by (with_reducible repeat (first | refine kN ?_ _ | refine blk_drew ?_ | refine kA ?_ _)); exact BK137.out) hb); have n1_ := Aside0.mk (below_step (by repeat (first | (with_reducible first | exact HB.out | apply bA | apply bN | apply bD | refine bS ?_ GE137.out) | exact HB.out)) hb); clear BK137; clear HB; have BK137 := n0_; have HB := n1_; clear n0_ n1_; (try clear hb); (try clear hb2); (try clear hk); (try clear hi); (try clear A34); have hcz50_0 : w49.cell? ⟨gb137, 0, none⟩ = some (.int .i64 a0_0) := (bC BK137.out 0).trans rfl; have hcz50_1 : w49.cell? ⟨gb137, 1, none⟩ = some (.int .i64 a0_1) := (bC BK137.out 1).trans rfl; have hcz50_2 : w49.cell? ⟨gb137, 2, none⟩ = some (.int .i64 a0_2) := (bC BK137.out 2).trans rfl; have hcz50_3 : w49.cell? ⟨gb137, 3, none⟩ = some (.int .i64 a0_3) := (bC BK137.out 3).trans rfl; have hcz50_4 : w49.cell? ⟨gb137, 4, none⟩ = some (.string a0_4) := (bC BK137.out 4).trans rfl; have hcz50_5 : w49.cell? ⟨gb137, 5, none⟩ = some (.slice A0_5 l0_5.length c0_5) := (bC BK137.out 5).trans rfl; have hfz50_0 := bZ BK137.out 0; have hfz50_1 := bZ BK137.out 1; have hfz50_2 := bZ BK137.out 2; have hfz50_3 := bZ BK137.out 3; have hfz50_4 := bZ BK137.out 4; have hfz50_5 := bZ BK137.out 5) | (go_at_call 69; (with_reducible refine (cubbyref07_Uses.calls kj4 a0_0 a0_1 a0_2 a0_3 a0_4 _ _ l0_5 t147 _ ?side1 ?side2 A42.out).mono ?_); (case side1 => repeat (first | exact (Kd.C_below HR0_5.out HB.out) | (with_reducible refine Kd.C_alloc ?_ _) | (with_reducible refine Kd.C_drewN ?_ _) | (with_reducible refine Kd.C_drew ?_))); (case side2 => exact HC0_5.out); rintro e w51 ⟨v148, rfl, ho0, hb⟩; have n0_ := Aside0.mk (Kd.R_lower ho0 (below_size (by repeat (first | (with_reducible first | exact HB.out | apply bA | apply bN | apply bD | refine bS ?_ GE137.out) | exact HB.out)))); have n1_ := Aside0.mk (blk_below (g := gb137) (o := .cells #[.int .i64 a0_0, .int .i64 a0_1, .int .i64 a0_2, .int .i64 a0_3, .string a0_4, .slice A0_5 l0_5.length c0_5] 32 (0, 0)) (by (with_reducible repeat (first | refine kN ?_ _ | refine blk_drew ?_ | refine kA ?_ _)); exact BK137.out) hb); have n2_ := Aside0.mk (below_step (by repeat (first | (with_reducible first | exact HB.out | apply bA | apply bN | apply bD | refine bS ?_ GE137.out) | exact HB.out)) hb); clear BK137; clear HB; have HO149 := n0_; have BK137 := n1_; have HB := n2_; clear n0_ n1_ n2_; (try clear hb); (try clear hb2); (try clear hk); (try clear hi); (try clear ho0); (try clear A42); obtain ⟨Ao52, co52, eo52⟩ := Kd.R_slice HO149.out; subst eo52) | (go_at_call 68; (with_reducible refine (cubbyref07_within.calls kj4 _ _ t147 a1 t150 _ ?side1 ?side2 A43.out).mono ?_); (case side1 => repeat (first | exact (Kd.R_reads' HO149.out).2.2 | (with_reducible refine Kd.C_alloc ?_ _) | (with_reducible refine Kd.C_drewN ?_ _) | (with_reducible refine Kd.C_drew ?_))); (case side2 => exact (Kd.R_reads' HO149.out).2.1); rintro e w' ⟨rfl, ⟨nd, rfl⟩⟩; (try clear A43)))
        go_meet
        case rel => exact ⟨_, (!t150), (by first | rfl | (simp; done) | (simp [*]; done)), H', ⟨by have := HJ4.out; first | omega | exact Nat.le_refl _⟩, ⟨by (with_reducible repeat (first | refine kN ?_ _ | refine blk_drew ?_ | refine kA ?_ _)); exact BK137.out⟩, ⟨by repeat (first | (with_reducible first | exact HB.out | apply bA | apply bN | apply bD | refine bS ?_ GE137.out) | exact HB.out)⟩⟩
    case rest =>
     clear HC18
     try clear c1
     try clear c2
     try clear p2
     try clear c3
     try clear c6
     try clear c7
     try clear c7b0
     try clear c9
     try clear c9b0
     try clear c12
     try clear c12b0
     try clear c12b1
     try clear c12b2
     try clear c17
     try clear c20
     try clear c20b0
     try clear c20b1
     try clear c29
     try clear c29b0
     try clear c31
     try clear c35
     try clear c35b0
     try clear hcz10_0
     try clear hcz10_1
     try clear hcz10_2
     try clear hcz10_3
     try clear hcz10_4
     try clear hcz10_5
     try clear hcz13_0
     try clear hcz13_1
     try clear hcz13_2
     try clear hcz13_3
     try clear hcz13_4
     try clear hcz13_5
     try clear hcz15_0
     try clear hcz15_1
     try clear hcz15_2
     try clear hcz15_3
     try clear hcz15_4
     try clear hcz15_5
     try clear hcz23_0
     try clear hcz23_1
     try clear hcz23_2
     try clear hcz23_3
     try clear hcz23_4
     try clear hcz23_5
     try clear hcz25_0
     try clear hcz25_1
     try clear hcz25_2
     try clear hcz25_3
     try clear hcz25_4
     try clear hcz25_5
     try clear hcz30_0
     try clear hcz30_1
     try clear hcz30_2
     try clear hcz30_3
     try clear hcz30_4
     try clear hcz30_5
     try clear hcz32_0
     try clear hcz32_1
     try clear hcz32_2
     try clear hcz32_3
     try clear hcz32_4
     try clear hcz32_5
     try clear hcz36_0
     try clear hcz36_1
     try clear hcz36_2
     try clear hcz36_3
     try clear hcz36_4
     try clear hcz36_5
     try clear hcz38_0
     try clear hcz38_1
     try clear hcz38_2
     try clear hcz38_3
     try clear hcz38_4
     try clear hcz38_5
     try clear hcz40_0
     try clear hcz40_1
     try clear hcz40_2
     try clear hcz40_3
     try clear hcz40_4
     try clear hcz40_5
     try clear hcz44_0
     try clear hcz44_1
     try clear hcz44_2
     try clear hcz44_3
     try clear hcz44_4
     try clear hcz44_5
     try clear hcz46_0
     try clear hcz46_1
     try clear hcz46_2
     try clear hcz46_3
     try clear hcz46_4
     try clear hcz46_5
     try clear hcz48_0
     try clear hcz48_1
     try clear hcz48_2
     try clear hcz48_3
     try clear hcz48_4
     try clear hcz48_5
     try clear hcz50_0
     try clear hcz50_1
     try clear hcz50_2
     try clear hcz50_3
     try clear hcz50_4
     try clear hcz50_5
     try clear hcz8_0
     try clear hcz8_1
     try clear hcz8_2
     try clear hcz8_3
     try clear hcz8_4
     try clear hcz8_5
     try clear hfz10_0
     try clear hfz10_1
     try clear hfz10_2
     try clear hfz10_3
     try clear hfz10_4
     try clear hfz10_5
     try clear hfz13_0
     try clear hfz13_1
     try clear hfz13_2
     try clear hfz13_3
     try clear hfz13_4
     try clear hfz13_5
     try clear hfz15_0
     try clear hfz15_1
     try clear hfz15_2
     try clear hfz15_3
     try clear hfz15_4
     try clear hfz15_5
     try clear hfz23_0
     try clear hfz23_1
     try clear hfz23_2
     try clear hfz23_3
     try clear hfz23_4
     try clear hfz23_5
     try clear hfz25_0
     try clear hfz25_1
     try clear hfz25_2
     try clear hfz25_3
     try clear hfz25_4
     try clear hfz25_5
     try clear hfz30_0
     try clear hfz30_1
     try clear hfz30_2
     try clear hfz30_3
     try clear hfz30_4
     try clear hfz30_5
     try clear hfz32_0
     try clear hfz32_1
     try clear hfz32_2
     try clear hfz32_3
     try clear hfz32_4
     try clear hfz32_5
     try clear hfz36_0
     try clear hfz36_1
     try clear hfz36_2
     try clear hfz36_3
     try clear hfz36_4
     try clear hfz36_5
     try clear hfz38_0
     try clear hfz38_1
     try clear hfz38_2
     try clear hfz38_3
     try clear hfz38_4
     try clear hfz38_5
     try clear hfz40_0
     try clear hfz40_1
     try clear hfz40_2
     try clear hfz40_3
     try clear hfz40_4
     try clear hfz40_5
     try clear hfz44_0
     try clear hfz44_1
     try clear hfz44_2
     try clear hfz44_3
     try clear hfz44_4
     try clear hfz44_5
     try clear hfz46_0
     try clear hfz46_1
     try clear hfz46_2
     try clear hfz46_3
     try clear hfz46_4
     try clear hfz46_5
     try clear hfz48_0
     try clear hfz48_1
     try clear hfz48_2
     try clear hfz48_3
     try clear hfz48_4
     try clear hfz48_5
     try clear hfz50_0
     try clear hfz50_1
     try clear hfz50_2
     try clear hfz50_3
     try clear hfz50_4
     try clear hfz50_5
     try clear hfz8_0
     try clear hfz8_1
     try clear hfz8_2
     try clear hfz8_3
     try clear hfz8_4
     try clear hfz8_5
     try clear p2
     obtain ⟨kq, x49_17, rfl, HA, HJ17, BK137, HB⟩ := hcut
     cases kq with
     | zero => exact absurd HA.out (by simp [cubbyref07_One.j1])
     | succ kj17 =>
      have H := HA.out
      clear HA
      simp only [cubbyref07_One.j1] at H
      by_cases c53 : x49_17 = true
      ·subst c53
       have H1 : (some 73) = some r := by rw [if_pos rfl] at H; exact H
       clear H
       have H := H1
       clear H1
       obtain rfl := Option.some.inj H
       go_wp2
       go_ret
       exact ⟨by first | rfl | (simp [errW_none, errW_some] <;> rfl) | (simp [*, errW_none, errW_some] <;> rfl), by repeat (first | (with_reducible first | exact HB.out | apply bA | apply bN | apply bD | refine bS ?_ GE137.out) | exact HB.out)⟩
      ·replace c53 := Bool.eq_false_iff.mpr c53
       subst c53
       have H1 : ((cubbyref07_Def.f a0_0 a0_1 a0_2 a0_3 a0_4 l0_5).bind fun t151 => (if t151 = (-1) then (if a0_0 = 9 then (cubbyref07_One.j2 kj17 a2 false a0_0 a0_1 a0_2 a0_3 a0_4 l0_5) else (if a0_0 = 10 then (cubbyref07_One.j2 kj17 a2 false a0_0 a0_1 a0_2 a0_3 a0_4 l0_5) else ((cubbyref07_Last.f a0_0).bind fun t152 => (cubbyref07_One.j2 kj17 a2 (!t152) a0_0 a0_1 a0_2 a0_3 a0_4 l0_5)))) else (cubbyref07_One.j2 kj17 a2 false a0_0 a0_1 a0_2 a0_3 a0_4 l0_5))) = some r := by rw [if_neg (show ¬ (false = true) by decide)] at H; exact H
       clear H
       have H := H1
       clear H1
       have HC54 := Aside0.mk H
       clear H
       go_upto_region 5 with (fail)
       go_cut [68] (fun v68 wc => ∃ (kq : Nat) (x68_53 : Bool), v68 = .bool x68_53 ∧ Aside0 (cubbyref07_One.j2 kq a2 x68_53 a0_0 a0_1 a0_2 a0_3 a0_4 l0_5 = some r) ∧ Aside0 (kq ≤ kj17) ∧ Aside0 (wc.heap[gb137]? = some (.cells #[.int .i64 a0_0, .int .i64 a0_1, .int .i64 a0_2, .int .i64 a0_3, .string a0_4, (.slice A0_5 l0_5.length c0_5)] 32 (0, 0))) ∧ Aside0 (Below w.heap.size w wc))
       case first =>
        have H := HC54.out
        clear HC54
        replace H := Option.bind_eq_some_iff.mp H
        obtain ⟨t151, A550, H⟩ := H
        replace H : (if t151 = (-1) then (if a0_0 = 9 then (cubbyref07_One.j2 kj17 a2 false a0_0 a0_1 a0_2 a0_3 a0_4 l0_5) else (if a0_0 = 10 then (cubbyref07_One.j2 kj17 a2 false a0_0 a0_1 a0_2 a0_3 a0_4 l0_5) else ((cubbyref07_Last.f a0_0).bind fun t152 => (cubbyref07_One.j2 kj17 a2 (!t152) a0_0 a0_1 a0_2 a0_3 a0_4 l0_5)))) else (cubbyref07_One.j2 kj17 a2 false a0_0 a0_1 a0_2 a0_3 a0_4 l0_5)) = some r := H
        have A55 := Aside0.mk A550
        clear A550
        by_cases c56 : t151 = (-1)
        ·rw [if_pos c56] at H
         have c56b0 : (t151 == (-1)) = true := beq_iff_eq.mpr c56
         have c56b1 : (t151 != (-1)) = false := bne_eq_false_iff_eq.mpr c56
         clear c56
         (first | rw [c56b0] | (simp only [i64_w]; rw [c56b0]) | skip)
         by_cases c57 : a0_0 = 9
         ·rw [if_pos c57] at H
          have c57b0 : (a0_0 == 9) = true := beq_iff_eq.mpr c57
          have c57b1 : (a0_0 != 9) = false := bne_eq_false_iff_eq.mpr c57
          clear c57
          have H' := Aside0.mk H
          clear H
          have hcz58_0 : wc.cell? ⟨gb137, 0, none⟩ = some (.int .i64 a0_0) := (bC BK137.out 0).trans rfl
          have hcz58_1 : wc.cell? ⟨gb137, 1, none⟩ = some (.int .i64 a0_1) := (bC BK137.out 1).trans rfl
          have hcz58_2 : wc.cell? ⟨gb137, 2, none⟩ = some (.int .i64 a0_2) := (bC BK137.out 2).trans rfl
          have hcz58_3 : wc.cell? ⟨gb137, 3, none⟩ = some (.int .i64 a0_3) := (bC BK137.out 3).trans rfl
          have hcz58_4 : wc.cell? ⟨gb137, 4, none⟩ = some (.string a0_4) := (bC BK137.out 4).trans rfl
          have hcz58_5 : wc.cell? ⟨gb137, 5, none⟩ = some (.slice A0_5 l0_5.length c0_5) := (bC BK137.out 5).trans rfl
          have hfz58_0 := bZ BK137.out 0
          have hfz58_1 := bZ BK137.out 1
          have hfz58_2 := bZ BK137.out 2
          have hfz58_3 := bZ BK137.out 3
          have hfz58_4 := bZ BK137.out 4
          have hfz58_5 := bZ BK137.out 5
          go_wp2_with (first | ((with_reducible refine gate_callee (f := 61) rfl ?_); refine goesL_ (some 51) rfl rfl Tryd.func61 (by kernel_rfl) rfl #[.agg #[.int .i64 a0_0, .int .i64 a0_1, .int .i64 a0_2, .int .i64 a0_3, .string a0_4, .slice A0_5 l0_5.length c0_5]] rfl (by (try simp only [List.map_toArray, List.map_cons, List.map_nil]); first | done | rfl | (simp only [List.length_drop, List.length_take]; rfl)) ?_; (with_reducible refine (cubbyref07_Def.calls a0_0 a0_1 a0_2 a0_3 a0_4 _ _ l0_5 t151 _ ?side1 ?side2 A55.out).mono ?_); (case side1 => repeat (first | exact (Kd.C_below HR0_5.out HB.out) | (with_reducible refine Kd.C_alloc ?_ _) | (with_reducible refine Kd.C_drewN ?_ _) | (with_reducible refine Kd.C_drew ?_))); (case side2 => exact HC0_5.out); rintro e w59 ⟨rfl, hb⟩; refine ⟨_, rfl, ?_⟩; have n0_ := Aside0.mk (blk_below (g := gb137) (o := .cells #[.int .i64 a0_0, .int .i64 a0_1, .int .i64 a0_2, .int .i64 a0_3, .string a0_4, .slice A0_5 l0_5.length c0_5] 32 (0, 0)) (by (with_reducible repeat (first | refine kN ?_ _ | refine blk_drew ?_ | refine kA ?_ _)); exact BK137.out) hb); have n1_ := Aside0.mk (below_step (by repeat (first | (with_reducible first | exact HB.out | apply bA | apply bN | apply bD | refine bS ?_ GE137.out) | exact HB.out)) hb); clear BK137; clear HB; have BK137 := n0_; have HB := n1_; clear n0_ n1_; (try clear hb); (try clear hb2); (try clear hk); (try clear hi); have hcz60_0 : w59.cell? ⟨gb137, 0, none⟩ = some (.int .i64 a0_0) := (bC BK137.out 0).trans rfl; have hcz60_1 : w59.cell? ⟨gb137, 1, none⟩ = some (.int .i64 a0_1) := (bC BK137.out 1).trans rfl; have hcz60_2 : w59.cell? ⟨gb137, 2, none⟩ = some (.int .i64 a0_2) := (bC BK137.out 2).trans rfl; have hcz60_3 : w59.cell? ⟨gb137, 3, none⟩ = some (.int .i64 a0_3) := (bC BK137.out 3).trans rfl; have hcz60_4 : w59.cell? ⟨gb137, 4, none⟩ = some (.string a0_4) := (bC BK137.out 4).trans rfl; have hcz60_5 : w59.cell? ⟨gb137, 5, none⟩ = some (.slice A0_5 l0_5.length c0_5) := (bC BK137.out 5).trans rfl; have hfz60_0 := bZ BK137.out 0; have hfz60_1 := bZ BK137.out 1; have hfz60_2 := bZ BK137.out 2; have hfz60_3 := bZ BK137.out 3; have hfz60_4 := bZ BK137.out 4; have hfz60_5 := bZ BK137.out 5))
          go_meet
          case rel => exact ⟨_, (false), (by first | rfl | (simp; done) | (simp [*]; done)), H', ⟨by have := HJ4.out; have := HJ17.out; first | omega | exact Nat.le_refl _⟩, ⟨by (with_reducible repeat (first | refine kN ?_ _ | refine blk_drew ?_ | refine kA ?_ _)); exact BK137.out⟩, ⟨by repeat (first | (with_reducible first | exact HB.out | apply bA | apply bN | apply bD | refine bS ?_ GE137.out) | exact HB.out)⟩⟩
         ·rw [if_neg c57] at H
          have c57b0 : (a0_0 == 9) = false := beq_eq_false_iff_ne.mpr c57
          have c57b1 : (a0_0 != 9) = true := bne_iff_ne.mpr c57
          by_cases c61 : a0_0 = 10
          ·rw [if_pos c61] at H
           have c61b0 : (a0_0 == 10) = true := beq_iff_eq.mpr c61
           have c61b1 : (a0_0 != 10) = false := bne_eq_false_iff_eq.mpr c61
           clear c61
           have H' := Aside0.mk H
           clear H
           have hcz62_0 : wc.cell? ⟨gb137, 0, none⟩ = some (.int .i64 a0_0) := (bC BK137.out 0).trans rfl
           have hcz62_1 : wc.cell? ⟨gb137, 1, none⟩ = some (.int .i64 a0_1) := (bC BK137.out 1).trans rfl
           have hcz62_2 : wc.cell? ⟨gb137, 2, none⟩ = some (.int .i64 a0_2) := (bC BK137.out 2).trans rfl
           have hcz62_3 : wc.cell? ⟨gb137, 3, none⟩ = some (.int .i64 a0_3) := (bC BK137.out 3).trans rfl
           have hcz62_4 : wc.cell? ⟨gb137, 4, none⟩ = some (.string a0_4) := (bC BK137.out 4).trans rfl
           have hcz62_5 : wc.cell? ⟨gb137, 5, none⟩ = some (.slice A0_5 l0_5.length c0_5) := (bC BK137.out 5).trans rfl
           have hfz62_0 := bZ BK137.out 0
           have hfz62_1 := bZ BK137.out 1
           have hfz62_2 := bZ BK137.out 2
           have hfz62_3 := bZ BK137.out 3
           have hfz62_4 := bZ BK137.out 4
           have hfz62_5 := bZ BK137.out 5
           go_wp2_with (first | ((with_reducible refine gate_callee (f := 61) rfl ?_); refine goesL_ (some 51) rfl rfl Tryd.func61 (by kernel_rfl) rfl #[.agg #[.int .i64 a0_0, .int .i64 a0_1, .int .i64 a0_2, .int .i64 a0_3, .string a0_4, .slice A0_5 l0_5.length c0_5]] rfl (by (try simp only [List.map_toArray, List.map_cons, List.map_nil]); first | done | rfl | (simp only [List.length_drop, List.length_take]; rfl)) ?_; (with_reducible refine (cubbyref07_Def.calls a0_0 a0_1 a0_2 a0_3 a0_4 _ _ l0_5 t151 _ ?side1 ?side2 A55.out).mono ?_); (case side1 => repeat (first | exact (Kd.C_below HR0_5.out HB.out) | (with_reducible refine Kd.C_alloc ?_ _) | (with_reducible refine Kd.C_drewN ?_ _) | (with_reducible refine Kd.C_drew ?_))); (case side2 => exact HC0_5.out); rintro e w63 ⟨rfl, hb⟩; refine ⟨_, rfl, ?_⟩; have n0_ := Aside0.mk (blk_below (g := gb137) (o := .cells #[.int .i64 a0_0, .int .i64 a0_1, .int .i64 a0_2, .int .i64 a0_3, .string a0_4, .slice A0_5 l0_5.length c0_5] 32 (0, 0)) (by (with_reducible repeat (first | refine kN ?_ _ | refine blk_drew ?_ | refine kA ?_ _)); exact BK137.out) hb); have n1_ := Aside0.mk (below_step (by repeat (first | (with_reducible first | exact HB.out | apply bA | apply bN | apply bD | refine bS ?_ GE137.out) | exact HB.out)) hb); clear BK137; clear HB; have BK137 := n0_; have HB := n1_; clear n0_ n1_; (try clear hb); (try clear hb2); (try clear hk); (try clear hi); have hcz64_0 : w63.cell? ⟨gb137, 0, none⟩ = some (.int .i64 a0_0) := (bC BK137.out 0).trans rfl; have hcz64_1 : w63.cell? ⟨gb137, 1, none⟩ = some (.int .i64 a0_1) := (bC BK137.out 1).trans rfl; have hcz64_2 : w63.cell? ⟨gb137, 2, none⟩ = some (.int .i64 a0_2) := (bC BK137.out 2).trans rfl; have hcz64_3 : w63.cell? ⟨gb137, 3, none⟩ = some (.int .i64 a0_3) := (bC BK137.out 3).trans rfl; have hcz64_4 : w63.cell? ⟨gb137, 4, none⟩ = some (.string a0_4) := (bC BK137.out 4).trans rfl; have hcz64_5 : w63.cell? ⟨gb137, 5, none⟩ = some (.slice A0_5 l0_5.length c0_5) := (bC BK137.out 5).trans rfl; have hfz64_0 := bZ BK137.out 0; have hfz64_1 := bZ BK137.out 1; have hfz64_2 := bZ BK137.out 2; have hfz64_3 := bZ BK137.out 3; have hfz64_4 := bZ BK137.out 4; have hfz64_5 := bZ BK137.out 5))
           go_meet
           case rel => exact ⟨_, (false), (by first | rfl | (simp; done) | (simp [*]; done)), H', ⟨by have := HJ4.out; have := HJ17.out; first | omega | exact Nat.le_refl _⟩, ⟨by (with_reducible repeat (first | refine kN ?_ _ | refine blk_drew ?_ | refine kA ?_ _)); exact BK137.out⟩, ⟨by repeat (first | (with_reducible first | exact HB.out | apply bA | apply bN | apply bD | refine bS ?_ GE137.out) | exact HB.out)⟩⟩
          ·rw [if_neg c61] at H
           have c61b0 : (a0_0 == 10) = false := beq_eq_false_iff_ne.mpr c61
           have c61b1 : (a0_0 != 10) = true := bne_iff_ne.mpr c61
           replace H := Option.bind_eq_some_iff.mp H
           obtain ⟨t152, A650, H⟩ := H
           replace H : (cubbyref07_One.j2 kj17 a2 (!t152) a0_0 a0_1 a0_2 a0_3 a0_4 l0_5) = some r := H
           have A65 := Aside0.mk A650
           clear A650
           have H' := Aside0.mk H
           clear H
           have hcz66_0 : wc.cell? ⟨gb137, 0, none⟩ = some (.int .i64 a0_0) := (bC BK137.out 0).trans rfl
           have hcz66_1 : wc.cell? ⟨gb137, 1, none⟩ = some (.int .i64 a0_1) := (bC BK137.out 1).trans rfl
           have hcz66_2 : wc.cell? ⟨gb137, 2, none⟩ = some (.int .i64 a0_2) := (bC BK137.out 2).trans rfl
           have hcz66_3 : wc.cell? ⟨gb137, 3, none⟩ = some (.int .i64 a0_3) := (bC BK137.out 3).trans rfl
           have hcz66_4 : wc.cell? ⟨gb137, 4, none⟩ = some (.string a0_4) := (bC BK137.out 4).trans rfl
           have hcz66_5 : wc.cell? ⟨gb137, 5, none⟩ = some (.slice A0_5 l0_5.length c0_5) := (bC BK137.out 5).trans rfl
           have hfz66_0 := bZ BK137.out 0
           have hfz66_1 := bZ BK137.out 1
           have hfz66_2 := bZ BK137.out 2
           have hfz66_3 := bZ BK137.out 3
           have hfz66_4 := bZ BK137.out 4
           have hfz66_5 := bZ BK137.out 5
           go_wp2_with (first | ((with_reducible refine gate_callee (f := 61) rfl ?_); refine goesL_ (some 51) rfl rfl Tryd.func61 (by kernel_rfl) rfl #[.agg #[.int .i64 a0_0, .int .i64 a0_1, .int .i64 a0_2, .int .i64 a0_3, .string a0_4, .slice A0_5 l0_5.length c0_5]] rfl (by (try simp only [List.map_toArray, List.map_cons, List.map_nil]); first | done | rfl | (simp only [List.length_drop, List.length_take]; rfl)) ?_; (with_reducible refine (cubbyref07_Def.calls a0_0 a0_1 a0_2 a0_3 a0_4 _ _ l0_5 t151 _ ?side1 ?side2 A55.out).mono ?_); (case side1 => repeat (first | exact (Kd.C_below HR0_5.out HB.out) | (with_reducible refine Kd.C_alloc ?_ _) | (with_reducible refine Kd.C_drewN ?_ _) | (with_reducible refine Kd.C_drew ?_))); (case side2 => exact HC0_5.out); rintro e w67 ⟨rfl, hb⟩; refine ⟨_, rfl, ?_⟩; have n0_ := Aside0.mk (blk_below (g := gb137) (o := .cells #[.int .i64 a0_0, .int .i64 a0_1, .int .i64 a0_2, .int .i64 a0_3, .string a0_4, .slice A0_5 l0_5.length c0_5] 32 (0, 0)) (by (with_reducible repeat (first | refine kN ?_ _ | refine blk_drew ?_ | refine kA ?_ _)); exact BK137.out) hb); have n1_ := Aside0.mk (below_step (by repeat (first | (with_reducible first | exact HB.out | apply bA | apply bN | apply bD | refine bS ?_ GE137.out) | exact HB.out)) hb); clear BK137; clear HB; have BK137 := n0_; have HB := n1_; clear n0_ n1_; (try clear hb); (try clear hb2); (try clear hk); (try clear hi); have hcz68_0 : w67.cell? ⟨gb137, 0, none⟩ = some (.int .i64 a0_0) := (bC BK137.out 0).trans rfl; have hcz68_1 : w67.cell? ⟨gb137, 1, none⟩ = some (.int .i64 a0_1) := (bC BK137.out 1).trans rfl; have hcz68_2 : w67.cell? ⟨gb137, 2, none⟩ = some (.int .i64 a0_2) := (bC BK137.out 2).trans rfl; have hcz68_3 : w67.cell? ⟨gb137, 3, none⟩ = some (.int .i64 a0_3) := (bC BK137.out 3).trans rfl; have hcz68_4 : w67.cell? ⟨gb137, 4, none⟩ = some (.string a0_4) := (bC BK137.out 4).trans rfl; have hcz68_5 : w67.cell? ⟨gb137, 5, none⟩ = some (.slice A0_5 l0_5.length c0_5) := (bC BK137.out 5).trans rfl; have hfz68_0 := bZ BK137.out 0; have hfz68_1 := bZ BK137.out 1; have hfz68_2 := bZ BK137.out 2; have hfz68_3 := bZ BK137.out 3; have hfz68_4 := bZ BK137.out 4; have hfz68_5 := bZ BK137.out 5) | (go_at_call 66; (with_reducible refine (cubbyref07_Last.calls a0_0 t152 _ A65.out).mono ?_); rintro e w' ⟨rfl, ⟨nd, rfl⟩⟩; (try clear A65)))
           go_meet
           case rel => exact ⟨_, (!t152), (by first | rfl | (simp; done) | (simp [*]; done)), H', ⟨by have := HJ4.out; have := HJ17.out; first | omega | exact Nat.le_refl _⟩, ⟨by (with_reducible repeat (first | refine kN ?_ _ | refine blk_drew ?_ | refine kA ?_ _)); exact BK137.out⟩, ⟨by repeat (first | (with_reducible first | exact HB.out | apply bA | apply bN | apply bD | refine bS ?_ GE137.out) | exact HB.out)⟩⟩
        ·rw [if_neg c56] at H
         have c56b0 : (t151 == (-1)) = false := beq_eq_false_iff_ne.mpr c56
         have c56b1 : (t151 != (-1)) = true := bne_iff_ne.mpr c56
         (first | rw [c56b0] | (simp only [i64_w]; rw [c56b0]) | skip)
         have H' := Aside0.mk H
         clear H
         have hcz69_0 : wc.cell? ⟨gb137, 0, none⟩ = some (.int .i64 a0_0) := (bC BK137.out 0).trans rfl
         have hcz69_1 : wc.cell? ⟨gb137, 1, none⟩ = some (.int .i64 a0_1) := (bC BK137.out 1).trans rfl
         have hcz69_2 : wc.cell? ⟨gb137, 2, none⟩ = some (.int .i64 a0_2) := (bC BK137.out 2).trans rfl
         have hcz69_3 : wc.cell? ⟨gb137, 3, none⟩ = some (.int .i64 a0_3) := (bC BK137.out 3).trans rfl
         have hcz69_4 : wc.cell? ⟨gb137, 4, none⟩ = some (.string a0_4) := (bC BK137.out 4).trans rfl
         have hcz69_5 : wc.cell? ⟨gb137, 5, none⟩ = some (.slice A0_5 l0_5.length c0_5) := (bC BK137.out 5).trans rfl
         have hfz69_0 := bZ BK137.out 0
         have hfz69_1 := bZ BK137.out 1
         have hfz69_2 := bZ BK137.out 2
         have hfz69_3 := bZ BK137.out 3
         have hfz69_4 := bZ BK137.out 4
         have hfz69_5 := bZ BK137.out 5
         go_wp2_with (first | ((with_reducible refine gate_callee (f := 61) rfl ?_); refine goesL_ (some 51) rfl rfl Tryd.func61 (by kernel_rfl) rfl #[.agg #[.int .i64 a0_0, .int .i64 a0_1, .int .i64 a0_2, .int .i64 a0_3, .string a0_4, .slice A0_5 l0_5.length c0_5]] rfl (by (try simp only [List.map_toArray, List.map_cons, List.map_nil]); first | done | rfl | (simp only [List.length_drop, List.length_take]; rfl)) ?_; (with_reducible refine (cubbyref07_Def.calls a0_0 a0_1 a0_2 a0_3 a0_4 _ _ l0_5 t151 _ ?side1 ?side2 A55.out).mono ?_); (case side1 => repeat (first | exact (Kd.C_below HR0_5.out HB.out) | (with_reducible refine Kd.C_alloc ?_ _) | (with_reducible refine Kd.C_drewN ?_ _) | (with_reducible refine Kd.C_drew ?_))); (case side2 => exact HC0_5.out); rintro e w70 ⟨rfl, hb⟩; refine ⟨_, rfl, ?_⟩; have n0_ := Aside0.mk (blk_below (g := gb137) (o := .cells #[.int .i64 a0_0, .int .i64 a0_1, .int .i64 a0_2, .int .i64 a0_3, .string a0_4, .slice A0_5 l0_5.length c0_5] 32 (0, 0)) (by (with_reducible repeat (first | refine kN ?_ _ | refine blk_drew ?_ | refine kA ?_ _)); exact BK137.out) hb); have n1_ := Aside0.mk (below_step (by repeat (first | (with_reducible first | exact HB.out | apply bA | apply bN | apply bD | refine bS ?_ GE137.out) | exact HB.out)) hb); clear BK137; clear HB; have BK137 := n0_; have HB := n1_; clear n0_ n1_; (try clear hb); (try clear hb2); (try clear hk); (try clear hi)))
         go_meet
         case rel => exact ⟨_, (false), (by first | rfl | (simp; done) | (simp [*]; done)), H', ⟨by have := HJ4.out; have := HJ17.out; first | omega | exact Nat.le_refl _⟩, ⟨by (with_reducible repeat (first | refine kN ?_ _ | refine blk_drew ?_ | refine kA ?_ _)); exact BK137.out⟩, ⟨by repeat (first | (with_reducible first | exact HB.out | apply bA | apply bN | apply bD | refine bS ?_ GE137.out) | exact HB.out)⟩⟩
       case rest =>
        clear HC54
        try clear c1
        try clear c2
        try clear p2
        try clear c3
        try clear c5
        try clear c6
        try clear c7
        try clear c7b0
        try clear c9
        try clear c9b0
        try clear c12
        try clear c12b0
        try clear c12b1
        try clear c12b2
        try clear c17
        try clear c20
        try clear c20b0
        try clear c20b1
        try clear c29
        try clear c29b0
        try clear c31
        try clear c35
        try clear c35b0
        try clear c53
        try clear c56
        try clear c56b0
        try clear c56b1
        try clear c57
        try clear c57b0
        try clear c57b1
        try clear c61
        try clear c61b0
        try clear c61b1
        try clear hcz10_0
        try clear hcz10_1
        try clear hcz10_2
        try clear hcz10_3
        try clear hcz10_4
        try clear hcz10_5
        try clear hcz13_0
        try clear hcz13_1
        try clear hcz13_2
        try clear hcz13_3
        try clear hcz13_4
        try clear hcz13_5
        try clear hcz15_0
        try clear hcz15_1
        try clear hcz15_2
        try clear hcz15_3
        try clear hcz15_4
        try clear hcz15_5
        try clear hcz23_0
        try clear hcz23_1
        try clear hcz23_2
        try clear hcz23_3
        try clear hcz23_4
        try clear hcz23_5
        try clear hcz25_0
        try clear hcz25_1
        try clear hcz25_2
        try clear hcz25_3
        try clear hcz25_4
        try clear hcz25_5
        try clear hcz30_0
        try clear hcz30_1
        try clear hcz30_2
        try clear hcz30_3
        try clear hcz30_4
        try clear hcz30_5
        try clear hcz32_0
        try clear hcz32_1
        try clear hcz32_2
        try clear hcz32_3
        try clear hcz32_4
        try clear hcz32_5
        try clear hcz36_0
        try clear hcz36_1
        try clear hcz36_2
        try clear hcz36_3
        try clear hcz36_4
        try clear hcz36_5
        try clear hcz38_0
        try clear hcz38_1
        try clear hcz38_2
        try clear hcz38_3
        try clear hcz38_4
        try clear hcz38_5
        try clear hcz40_0
        try clear hcz40_1
        try clear hcz40_2
        try clear hcz40_3
        try clear hcz40_4
        try clear hcz40_5
        try clear hcz44_0
        try clear hcz44_1
        try clear hcz44_2
        try clear hcz44_3
        try clear hcz44_4
        try clear hcz44_5
        try clear hcz46_0
        try clear hcz46_1
        try clear hcz46_2
        try clear hcz46_3
        try clear hcz46_4
        try clear hcz46_5
        try clear hcz48_0
        try clear hcz48_1
        try clear hcz48_2
        try clear hcz48_3
        try clear hcz48_4
        try clear hcz48_5
        try clear hcz50_0
        try clear hcz50_1
        try clear hcz50_2
        try clear hcz50_3
        try clear hcz50_4
        try clear hcz50_5
        try clear hcz58_0
        try clear hcz58_1
        try clear hcz58_2
        try clear hcz58_3
        try clear hcz58_4
        try clear hcz58_5
        try clear hcz60_0
        try clear hcz60_1
        try clear hcz60_2
        try clear hcz60_3
        try clear hcz60_4
        try clear hcz60_5
        try clear hcz62_0
        try clear hcz62_1
        try clear hcz62_2
        try clear hcz62_3
        try clear hcz62_4
        try clear hcz62_5
        try clear hcz64_0
        try clear hcz64_1
        try clear hcz64_2
        try clear hcz64_3
        try clear hcz64_4
        try clear hcz64_5
        try clear hcz66_0
        try clear hcz66_1
        try clear hcz66_2
        try clear hcz66_3
        try clear hcz66_4
        try clear hcz66_5
        try clear hcz68_0
        try clear hcz68_1
        try clear hcz68_2
        try clear hcz68_3
        try clear hcz68_4
        try clear hcz68_5
        try clear hcz69_0
        try clear hcz69_1
        try clear hcz69_2
        try clear hcz69_3
        try clear hcz69_4
        try clear hcz69_5
        try clear hcz8_0
        try clear hcz8_1
        try clear hcz8_2
        try clear hcz8_3
        try clear hcz8_4
        try clear hcz8_5
        try clear hfz10_0
        try clear hfz10_1
        try clear hfz10_2
        try clear hfz10_3
        try clear hfz10_4
        try clear hfz10_5
        try clear hfz13_0
        try clear hfz13_1
        try clear hfz13_2
        try clear hfz13_3
        try clear hfz13_4
        try clear hfz13_5
        try clear hfz15_0
        try clear hfz15_1
        try clear hfz15_2
        try clear hfz15_3
        try clear hfz15_4
        try clear hfz15_5
        try clear hfz23_0
        try clear hfz23_1
        try clear hfz23_2
        try clear hfz23_3
        try clear hfz23_4
        try clear hfz23_5
        try clear hfz25_0
        try clear hfz25_1
        try clear hfz25_2
        try clear hfz25_3
        try clear hfz25_4
        try clear hfz25_5
        try clear hfz30_0
        try clear hfz30_1
        try clear hfz30_2
        try clear hfz30_3
        try clear hfz30_4
        try clear hfz30_5
        try clear hfz32_0
        try clear hfz32_1
        try clear hfz32_2
        try clear hfz32_3
        try clear hfz32_4
        try clear hfz32_5
        try clear hfz36_0
        try clear hfz36_1
        try clear hfz36_2
        try clear hfz36_3
        try clear hfz36_4
        try clear hfz36_5
        try clear hfz38_0
        try clear hfz38_1
        try clear hfz38_2
        try clear hfz38_3
        try clear hfz38_4
        try clear hfz38_5
        try clear hfz40_0
        try clear hfz40_1
        try clear hfz40_2
        try clear hfz40_3
        try clear hfz40_4
        try clear hfz40_5
        try clear hfz44_0
        try clear hfz44_1
        try clear hfz44_2
        try clear hfz44_3
        try clear hfz44_4
        try clear hfz44_5
        try clear hfz46_0
        try clear hfz46_1
        try clear hfz46_2
        try clear hfz46_3
        try clear hfz46_4
        try clear hfz46_5
        try clear hfz48_0
        try clear hfz48_1
        try clear hfz48_2
        try clear hfz48_3
        try clear hfz48_4
        try clear hfz48_5
        try clear hfz50_0
        try clear hfz50_1
        try clear hfz50_2
        try clear hfz50_3
        try clear hfz50_4
        try clear hfz50_5
        try clear hfz58_0
        try clear hfz58_1
        try clear hfz58_2
        try clear hfz58_3
        try clear hfz58_4
        try clear hfz58_5
        try clear hfz60_0
        try clear hfz60_1
        try clear hfz60_2
        try clear hfz60_3
        try clear hfz60_4
        try clear hfz60_5
        try clear hfz62_0
        try clear hfz62_1
        try clear hfz62_2
        try clear hfz62_3
        try clear hfz62_4
        try clear hfz62_5
        try clear hfz64_0
        try clear hfz64_1
        try clear hfz64_2
        try clear hfz64_3
        try clear hfz64_4
        try clear hfz64_5
        try clear hfz66_0
        try clear hfz66_1
        try clear hfz66_2
        try clear hfz66_3
        try clear hfz66_4
        try clear hfz66_5
        try clear hfz68_0
        try clear hfz68_1
        try clear hfz68_2
        try clear hfz68_3
        try clear hfz68_4
        try clear hfz68_5
        try clear hfz69_0
        try clear hfz69_1
        try clear hfz69_2
        try clear hfz69_3
        try clear hfz69_4
        try clear hfz69_5
        try clear hfz8_0
        try clear hfz8_1
        try clear hfz8_2
        try clear hfz8_3
        try clear hfz8_4
        try clear hfz8_5
        try clear p2
        obtain ⟨kq, x68_53, rfl, HA, HJ53, BK137, HB⟩ := hcut
        cases kq with
        | zero => exact absurd HA.out (by simp [cubbyref07_One.j2])
        | succ kj53 =>
         have H := HA.out
         clear HA
         simp only [cubbyref07_One.j2] at H
         by_cases c71 : x68_53 = true
         ·subst c71
          have H1 : (some 73) = some r := by rw [if_pos rfl] at H; exact H
          clear H
          have H := H1
          clear H1
          obtain rfl := Option.some.inj H
          go_wp2
          go_ret
          exact ⟨by first | rfl | (simp [errW_none, errW_some] <;> rfl) | (simp [*, errW_none, errW_some] <;> rfl), by repeat (first | (with_reducible first | exact HB.out | apply bA | apply bN | apply bD | refine bS ?_ GE137.out) | exact HB.out)⟩
         ·replace c71 := Bool.eq_false_iff.mpr c71
          subst c71
          have H1 : (if a0_0 = 1 then (if a0_2 < 0 then (cubbyref07_One.j3 kj53 a2 true a0_0 a0_1 a0_2 a0_3 a0_4 l0_5) else (cubbyref07_One.j3 kj53 a2 (decide (a0_2 ≥ 65536)) a0_0 a0_1 a0_2 a0_3 a0_4 l0_5)) else (cubbyref07_One.j3 kj53 a2 false a0_0 a0_1 a0_2 a0_3 a0_4 l0_5)) = some r := by rw [if_neg (show ¬ (false = true) by decide)] at H; exact H
          clear H
          have H := H1
          clear H1
          have HC72 := Aside0.mk H
          clear H
          go_upto_region 7 with (fail)
          go_cut [81] (fun v81 wc => ∃ (kq : Nat) (x81_71 : Bool), v81 = .bool x81_71 ∧ Aside0 (cubbyref07_One.j3 kq a2 x81_71 a0_0 a0_1 a0_2 a0_3 a0_4 l0_5 = some r) ∧ Aside0 (kq ≤ kj53) ∧ Aside0 (wc.heap[gb137]? = some (.cells #[.int .i64 a0_0, .int .i64 a0_1, .int .i64 a0_2, .int .i64 a0_3, .string a0_4, (.slice A0_5 l0_5.length c0_5)] 32 (0, 0))) ∧ Aside0 (Below w.heap.size w wc))
          case first =>
           have H := HC72.out
           clear HC72
           by_cases c73 : a0_0 = 1
           ·rw [if_pos c73] at H
            have c73b0 : (a0_0 == 1) = true := beq_iff_eq.mpr c73
            have c73b1 : (a0_0 != 1) = false := bne_eq_false_iff_eq.mpr c73
            clear c73
            (first | rw [c73b0] | (simp only [i64_w]; rw [c73b0]) | skip)
            by_cases c74 : a0_2 < 0
            ·rw [if_pos c74] at H
             have c74b0 : decide (a0_2 < 0) = true := decide_eq_true c74
             clear c74
             have H' := Aside0.mk H
             clear H
             have hcz75_0 : wc.cell? ⟨gb137, 0, none⟩ = some (.int .i64 a0_0) := (bC BK137.out 0).trans rfl
             have hcz75_1 : wc.cell? ⟨gb137, 1, none⟩ = some (.int .i64 a0_1) := (bC BK137.out 1).trans rfl
             have hcz75_2 : wc.cell? ⟨gb137, 2, none⟩ = some (.int .i64 a0_2) := (bC BK137.out 2).trans rfl
             have hcz75_3 : wc.cell? ⟨gb137, 3, none⟩ = some (.int .i64 a0_3) := (bC BK137.out 3).trans rfl
             have hcz75_4 : wc.cell? ⟨gb137, 4, none⟩ = some (.string a0_4) := (bC BK137.out 4).trans rfl
             have hcz75_5 : wc.cell? ⟨gb137, 5, none⟩ = some (.slice A0_5 l0_5.length c0_5) := (bC BK137.out 5).trans rfl
             have hfz75_0 := bZ BK137.out 0
             have hfz75_1 := bZ BK137.out 1
             have hfz75_2 := bZ BK137.out 2
             have hfz75_3 := bZ BK137.out 3
             have hfz75_4 := bZ BK137.out 4
             have hfz75_5 := bZ BK137.out 5
             go_wp2
             go_meet
             case rel => exact ⟨_, (true), (by first | rfl | (simp; done) | (simp [*]; done)), H', ⟨by have := HJ4.out; have := HJ17.out; have := HJ53.out; first | omega | exact Nat.le_refl _⟩, ⟨by (with_reducible repeat (first | refine kN ?_ _ | refine blk_drew ?_ | refine kA ?_ _)); exact BK137.out⟩, ⟨by repeat (first | (with_reducible first | exact HB.out | apply bA | apply bN | apply bD | refine bS ?_ GE137.out) | exact HB.out)⟩⟩
            ·rw [if_neg c74] at H
             have c74b0 : decide (a0_2 < 0) = false := decide_eq_false c74
             clear c74
             have H' := Aside0.mk H
             clear H
             have hcz76_0 : wc.cell? ⟨gb137, 0, none⟩ = some (.int .i64 a0_0) := (bC BK137.out 0).trans rfl
             have hcz76_1 : wc.cell? ⟨gb137, 1, none⟩ = some (.int .i64 a0_1) := (bC BK137.out 1).trans rfl
             have hcz76_2 : wc.cell? ⟨gb137, 2, none⟩ = some (.int .i64 a0_2) := (bC BK137.out 2).trans rfl
             have hcz76_3 : wc.cell? ⟨gb137, 3, none⟩ = some (.int .i64 a0_3) := (bC BK137.out 3).trans rfl
             have hcz76_4 : wc.cell? ⟨gb137, 4, none⟩ = some (.string a0_4) := (bC BK137.out 4).trans rfl
             have hcz76_5 : wc.cell? ⟨gb137, 5, none⟩ = some (.slice A0_5 l0_5.length c0_5) := (bC BK137.out 5).trans rfl
             have hfz76_0 := bZ BK137.out 0
             have hfz76_1 := bZ BK137.out 1
             have hfz76_2 := bZ BK137.out 2
             have hfz76_3 := bZ BK137.out 3
             have hfz76_4 := bZ BK137.out 4
             have hfz76_5 := bZ BK137.out 5
             go_wp2
             go_meet
             case rel => exact ⟨_, (decide (a0_2 ≥ 65536)), (by first | rfl | (simp; done) | (simp [*]; done)), H', ⟨by have := HJ4.out; have := HJ17.out; have := HJ53.out; first | omega | exact Nat.le_refl _⟩, ⟨by (with_reducible repeat (first | refine kN ?_ _ | refine blk_drew ?_ | refine kA ?_ _)); exact BK137.out⟩, ⟨by repeat (first | (with_reducible first | exact HB.out | apply bA | apply bN | apply bD | refine bS ?_ GE137.out) | exact HB.out)⟩⟩
           ·rw [if_neg c73] at H
            have c73b0 : (a0_0 == 1) = false := beq_eq_false_iff_ne.mpr c73
            have c73b1 : (a0_0 != 1) = true := bne_iff_ne.mpr c73
            (first | rw [c73b0] | (simp only [i64_w]; rw [c73b0]) | skip)
            have H' := Aside0.mk H
            clear H
            have hcz77_0 : wc.cell? ⟨gb137, 0, none⟩ = some (.int .i64 a0_0) := (bC BK137.out 0).trans rfl
            have hcz77_1 : wc.cell? ⟨gb137, 1, none⟩ = some (.int .i64 a0_1) := (bC BK137.out 1).trans rfl
            have hcz77_2 : wc.cell? ⟨gb137, 2, none⟩ = some (.int .i64 a0_2) := (bC BK137.out 2).trans rfl
            have hcz77_3 : wc.cell? ⟨gb137, 3, none⟩ = some (.int .i64 a0_3) := (bC BK137.out 3).trans rfl
            have hcz77_4 : wc.cell? ⟨gb137, 4, none⟩ = some (.string a0_4) := (bC BK137.out 4).trans rfl
            have hcz77_5 : wc.cell? ⟨gb137, 5, none⟩ = some (.slice A0_5 l0_5.length c0_5) := (bC BK137.out 5).trans rfl
            have hfz77_0 := bZ BK137.out 0
            have hfz77_1 := bZ BK137.out 1
            have hfz77_2 := bZ BK137.out 2
            have hfz77_3 := bZ BK137.out 3
            have hfz77_4 := bZ BK137.out 4
            have hfz77_5 := bZ BK137.out 5
            go_wp2
            go_meet
            case rel => exact ⟨_, (false), (by first | rfl | (simp; done) | (simp [*]; done)), H', ⟨by have := HJ4.out; have := HJ17.out; have := HJ53.out; first | omega | exact Nat.le_refl _⟩, ⟨by (with_reducible repeat (first | refine kN ?_ _ | refine blk_drew ?_ | refine kA ?_ _)); exact BK137.out⟩, ⟨by repeat (first | (with_reducible first | exact HB.out | apply bA | apply bN | apply bD | refine bS ?_ GE137.out) | exact HB.out)⟩⟩
          case rest =>
           clear HC72
           try clear c1
           try clear c2
           try clear p2
           try clear c3
           try clear c5
           try clear c6
           try clear c7
           try clear c7b0
           try clear c9
           try clear c9b0
           try clear c12
           try clear c12b0
           try clear c12b1
           try clear c12b2
           try clear c17
           try clear c20
           try clear c20b0
           try clear c20b1
           try clear c29
           try clear c29b0
           try clear c31
           try clear c35
           try clear c35b0
           try clear c53
           try clear c56
           try clear c56b0
           try clear c56b1
           try clear c57
           try clear c57b0
           try clear c57b1
           try clear c61
           try clear c61b0
           try clear c61b1
           try clear c71
           try clear c73
           try clear c73b0
           try clear c73b1
           try clear c74
           try clear c74b0
           try clear hcz10_0
           try clear hcz10_1
           try clear hcz10_2
           try clear hcz10_3
           try clear hcz10_4
           try clear hcz10_5
           try clear hcz13_0
           try clear hcz13_1
           try clear hcz13_2
           try clear hcz13_3
           try clear hcz13_4
           try clear hcz13_5
           try clear hcz15_0
           try clear hcz15_1
           try clear hcz15_2
           try clear hcz15_3
           try clear hcz15_4
           try clear hcz15_5
           try clear hcz23_0
           try clear hcz23_1
           try clear hcz23_2
           try clear hcz23_3
           try clear hcz23_4
           try clear hcz23_5
           try clear hcz25_0
           try clear hcz25_1
           try clear hcz25_2
           try clear hcz25_3
           try clear hcz25_4
           try clear hcz25_5
           try clear hcz30_0
           try clear hcz30_1
           try clear hcz30_2
           try clear hcz30_3
           try clear hcz30_4
           try clear hcz30_5
           try clear hcz32_0
           try clear hcz32_1
           try clear hcz32_2
           try clear hcz32_3
           try clear hcz32_4
           try clear hcz32_5
           try clear hcz36_0
           try clear hcz36_1
           try clear hcz36_2
           try clear hcz36_3
           try clear hcz36_4
           try clear hcz36_5
           try clear hcz38_0
           try clear hcz38_1
           try clear hcz38_2
           try clear hcz38_3
           try clear hcz38_4
           try clear hcz38_5
           try clear hcz40_0
           try clear hcz40_1
           try clear hcz40_2
           try clear hcz40_3
           try clear hcz40_4
           try clear hcz40_5
           try clear hcz44_0
           try clear hcz44_1
           try clear hcz44_2
           try clear hcz44_3
           try clear hcz44_4
           try clear hcz44_5
           try clear hcz46_0
           try clear hcz46_1
           try clear hcz46_2
           try clear hcz46_3
           try clear hcz46_4
           try clear hcz46_5
           try clear hcz48_0
           try clear hcz48_1
           try clear hcz48_2
           try clear hcz48_3
           try clear hcz48_4
           try clear hcz48_5
           try clear hcz50_0
           try clear hcz50_1
           try clear hcz50_2
           try clear hcz50_3
           try clear hcz50_4
           try clear hcz50_5
           try clear hcz58_0
           try clear hcz58_1
           try clear hcz58_2
           try clear hcz58_3
           try clear hcz58_4
           try clear hcz58_5
           try clear hcz60_0
           try clear hcz60_1
           try clear hcz60_2
           try clear hcz60_3
           try clear hcz60_4
           try clear hcz60_5
           try clear hcz62_0
           try clear hcz62_1
           try clear hcz62_2
           try clear hcz62_3
           try clear hcz62_4
           try clear hcz62_5
           try clear hcz64_0
           try clear hcz64_1
           try clear hcz64_2
           try clear hcz64_3
           try clear hcz64_4
           try clear hcz64_5
           try clear hcz66_0
           try clear hcz66_1
           try clear hcz66_2
           try clear hcz66_3
           try clear hcz66_4
           try clear hcz66_5
           try clear hcz68_0
           try clear hcz68_1
           try clear hcz68_2
           try clear hcz68_3
           try clear hcz68_4
           try clear hcz68_5
           try clear hcz69_0
           try clear hcz69_1
           try clear hcz69_2
           try clear hcz69_3
           try clear hcz69_4
           try clear hcz69_5
           try clear hcz75_0
           try clear hcz75_1
           try clear hcz75_2
           try clear hcz75_3
           try clear hcz75_4
           try clear hcz75_5
           try clear hcz76_0
           try clear hcz76_1
           try clear hcz76_2
           try clear hcz76_3
           try clear hcz76_4
           try clear hcz76_5
           try clear hcz77_0
           try clear hcz77_1
           try clear hcz77_2
           try clear hcz77_3
           try clear hcz77_4
           try clear hcz77_5
           try clear hcz8_0
           try clear hcz8_1
           try clear hcz8_2
           try clear hcz8_3
           try clear hcz8_4
           try clear hcz8_5
           try clear hfz10_0
           try clear hfz10_1
           try clear hfz10_2
           try clear hfz10_3
           try clear hfz10_4
           try clear hfz10_5
           try clear hfz13_0
           try clear hfz13_1
           try clear hfz13_2
           try clear hfz13_3
           try clear hfz13_4
           try clear hfz13_5
           try clear hfz15_0
           try clear hfz15_1
           try clear hfz15_2
           try clear hfz15_3
           try clear hfz15_4
           try clear hfz15_5
           try clear hfz23_0
           try clear hfz23_1
           try clear hfz23_2
           try clear hfz23_3
           try clear hfz23_4
           try clear hfz23_5
           try clear hfz25_0
           try clear hfz25_1
           try clear hfz25_2
           try clear hfz25_3
           try clear hfz25_4
           try clear hfz25_5
           try clear hfz30_0
           try clear hfz30_1
           try clear hfz30_2
           try clear hfz30_3
           try clear hfz30_4
           try clear hfz30_5
           try clear hfz32_0
           try clear hfz32_1
           try clear hfz32_2
           try clear hfz32_3
           try clear hfz32_4
           try clear hfz32_5
           try clear hfz36_0
           try clear hfz36_1
           try clear hfz36_2
           try clear hfz36_3
           try clear hfz36_4
           try clear hfz36_5
           try clear hfz38_0
           try clear hfz38_1
           try clear hfz38_2
           try clear hfz38_3
           try clear hfz38_4
           try clear hfz38_5
           try clear hfz40_0
           try clear hfz40_1
           try clear hfz40_2
           try clear hfz40_3
           try clear hfz40_4
           try clear hfz40_5
           try clear hfz44_0
           try clear hfz44_1
           try clear hfz44_2
           try clear hfz44_3
           try clear hfz44_4
           try clear hfz44_5
           try clear hfz46_0
           try clear hfz46_1
           try clear hfz46_2
           try clear hfz46_3
           try clear hfz46_4
           try clear hfz46_5
           try clear hfz48_0
           try clear hfz48_1
           try clear hfz48_2
           try clear hfz48_3
           try clear hfz48_4
           try clear hfz48_5
           try clear hfz50_0
           try clear hfz50_1
           try clear hfz50_2
           try clear hfz50_3
           try clear hfz50_4
           try clear hfz50_5
           try clear hfz58_0
           try clear hfz58_1
           try clear hfz58_2
           try clear hfz58_3
           try clear hfz58_4
           try clear hfz58_5
           try clear hfz60_0
           try clear hfz60_1
           try clear hfz60_2
           try clear hfz60_3
           try clear hfz60_4
           try clear hfz60_5
           try clear hfz62_0
           try clear hfz62_1
           try clear hfz62_2
           try clear hfz62_3
           try clear hfz62_4
           try clear hfz62_5
           try clear hfz64_0
           try clear hfz64_1
           try clear hfz64_2
           try clear hfz64_3
           try clear hfz64_4
           try clear hfz64_5
           try clear hfz66_0
           try clear hfz66_1
           try clear hfz66_2
           try clear hfz66_3
           try clear hfz66_4
           try clear hfz66_5
           try clear hfz68_0
           try clear hfz68_1
           try clear hfz68_2
           try clear hfz68_3
           try clear hfz68_4
           try clear hfz68_5
           try clear hfz69_0
           try clear hfz69_1
           try clear hfz69_2
           try clear hfz69_3
           try clear hfz69_4
           try clear hfz69_5
           try clear hfz75_0
           try clear hfz75_1
           try clear hfz75_2
           try clear hfz75_3
           try clear hfz75_4
           try clear hfz75_5
           try clear hfz76_0
           try clear hfz76_1
           try clear hfz76_2
           try clear hfz76_3
           try clear hfz76_4
           try clear hfz76_5
           try clear hfz77_0
           try clear hfz77_1
           try clear hfz77_2
           try clear hfz77_3
           try clear hfz77_4
           try clear hfz77_5
           try clear hfz8_0
           try clear hfz8_1
           try clear hfz8_2
           try clear hfz8_3
           try clear hfz8_4
           try clear hfz8_5
           try clear p2
           obtain ⟨kq, x81_71, rfl, HA, HJ71, BK137, HB⟩ := hcut
           cases kq with
           | zero => exact absurd HA.out (by simp [cubbyref07_One.j3])
           | succ kj71 =>
            have H := HA.out
            clear HA
            simp only [cubbyref07_One.j3] at H
            by_cases c78 : x81_71 = true
            ·subst c78
             have H1 : (some 81) = some r := by rw [if_pos rfl] at H; exact H
             clear H
             have H := H1
             clear H1
             obtain rfl := Option.some.inj H
             go_wp2
             go_ret
             exact ⟨by first | rfl | (simp [errW_none, errW_some] <;> rfl) | (simp [*, errW_none, errW_some] <;> rfl), by repeat (first | (with_reducible first | exact HB.out | apply bA | apply bN | apply bD | refine bS ?_ GE137.out) | exact HB.out)⟩
            ·replace c78 := Bool.eq_false_iff.mpr c78
             subst c78
             have H1 : ((cubbyref07_Targets.f a0_0 a0_1 a0_2 a0_3 a0_4 l0_5).bind fun t153 => ((cubbyref07_within.f kj71 t153 a2).bind fun t156 => (if t156 = true then (if a0_0 = 11 then ((cubbyref07_Name.f kj71 a0_4).bind fun t157 => (cubbyref07_One.j4 kj71 (!t157) a0_0 a0_1 a0_2 a0_3 a0_4 l0_5)) else (cubbyref07_One.j4 kj71 false a0_0 a0_1 a0_2 a0_3 a0_4 l0_5)) else (some 74)))) = some r := by rw [if_neg (show ¬ (false = true) by decide)] at H; exact H
             clear H
             have H := H1
             clear H1
             replace H := Option.bind_eq_some_iff.mp H
             obtain ⟨t153, A790, H⟩ := H
             replace H : ((cubbyref07_within.f kj71 t153 a2).bind fun t156 => (if t156 = true then (if a0_0 = 11 then ((cubbyref07_Name.f kj71 a0_4).bind fun t157 => (cubbyref07_One.j4 kj71 (!t157) a0_0 a0_1 a0_2 a0_3 a0_4 l0_5)) else (cubbyref07_One.j4 kj71 false a0_0 a0_1 a0_2 a0_3 a0_4 l0_5)) else (some 74))) = some r := H
             have A79 := Aside0.mk A790
             clear A790
             replace H := Option.bind_eq_some_iff.mp H
             obtain ⟨t156, A800, H⟩ := H
             replace H : (if t156 = true then (if a0_0 = 11 then ((cubbyref07_Name.f kj71 a0_4).bind fun t157 => (cubbyref07_One.j4 kj71 (!t157) a0_0 a0_1 a0_2 a0_3 a0_4 l0_5)) else (cubbyref07_One.j4 kj71 false a0_0 a0_1 a0_2 a0_3 a0_4 l0_5)) else (some 74)) = some r := H
             have A80 := Aside0.mk A800
             clear A800
             by_cases c81 : t156 = true
             ·subst c81
              have H1 : (if a0_0 = 11 then ((cubbyref07_Name.f kj71 a0_4).bind fun t157 => (cubbyref07_One.j4 kj71 (!t157) a0_0 a0_1 a0_2 a0_3 a0_4 l0_5)) else (cubbyref07_One.j4 kj71 false a0_0 a0_1 a0_2 a0_3 a0_4 l0_5)) = some r := by rw [if_pos rfl] at H; exact H
              clear H
              have H := H1
              clear H1
              have HC82 := Aside0.mk H
              clear H
              have hcz83_0 : wc.cell? ⟨gb137, 0, none⟩ = some (.int .i64 a0_0) := (bC BK137.out 0).trans rfl
              have hcz83_1 : wc.cell? ⟨gb137, 1, none⟩ = some (.int .i64 a0_1) := (bC BK137.out 1).trans rfl
              have hcz83_2 : wc.cell? ⟨gb137, 2, none⟩ = some (.int .i64 a0_2) := (bC BK137.out 2).trans rfl
              have hcz83_3 : wc.cell? ⟨gb137, 3, none⟩ = some (.int .i64 a0_3) := (bC BK137.out 3).trans rfl
              have hcz83_4 : wc.cell? ⟨gb137, 4, none⟩ = some (.string a0_4) := (bC BK137.out 4).trans rfl
              have hcz83_5 : wc.cell? ⟨gb137, 5, none⟩ = some (.slice A0_5 l0_5.length c0_5) := (bC BK137.out 5).trans rfl
              have hfz83_0 := bZ BK137.out 0
              have hfz83_1 := bZ BK137.out 1
              have hfz83_2 := bZ BK137.out 2
              have hfz83_3 := bZ BK137.out 3
              have hfz83_4 := bZ BK137.out 4
              have hfz83_5 := bZ BK137.out 5
              go_upto_region 11 with (first | ((with_reducible refine gate_callee (f := 70) rfl ?_); refine goesL_ (some 83) rfl rfl Tryd.func70 (by kernel_rfl) rfl #[.agg #[.int .i64 a0_0, .int .i64 a0_1, .int .i64 a0_2, .int .i64 a0_3, .string a0_4, .slice A0_5 l0_5.length c0_5]] rfl (by (try simp only [List.map_toArray, List.map_cons, List.map_nil]); first | done | rfl | (simp only [List.length_drop, List.length_take]; rfl)) ?_; (with_reducible refine (cubbyref07_Targets.calls a0_0 a0_1 a0_2 a0_3 a0_4 _ _ l0_5 t153 _ ?side1 ?side2 A79.out).mono ?_); (case side1 => repeat (first | exact (Kd.C_below HR0_5.out HB.out) | (with_reducible refine Kd.C_alloc ?_ _) | (with_reducible refine Kd.C_drewN ?_ _) | (with_reducible refine Kd.C_drew ?_))); (case side2 => exact HC0_5.out); rintro e w84 ⟨v154, rfl, ho0, hb⟩; refine ⟨_, rfl, ?_⟩; have n0_ := Aside0.mk (Kd.R_lower ho0 (below_size (by repeat (first | (with_reducible first | exact HB.out | apply bA | apply bN | apply bD | refine bS ?_ GE137.out) | exact HB.out)))); have n1_ := Aside0.mk (blk_below (g := gb137) (o := .cells #[.int .i64 a0_0, .int .i64 a0_1, .int .i64 a0_2, .int .i64 a0_3, .string a0_4, .slice A0_5 l0_5.length c0_5] 32 (0, 0)) (by (with_reducible repeat (first | refine kN ?_ _ | refine blk_drew ?_ | refine kA ?_ _)); exact BK137.out) hb); have n2_ := Aside0.mk (below_step (by repeat (first | (with_reducible first | exact HB.out | apply bA | apply bN | apply bD | refine bS ?_ GE137.out) | exact HB.out)) hb); clear BK137; clear HB; have HO155 := n0_; have BK137 := n1_; have HB := n2_; clear n0_ n1_ n2_; (try clear hb); (try clear hb2); (try clear hk); (try clear hi); (try clear ho0); obtain ⟨Ao85, co85, eo85⟩ := Kd.R_slice HO155.out; subst eo85) | ((with_reducible refine gate_callee (f := 68) rfl ?_); refine goesL_ (some 85) rfl rfl Tryd.func68 (by kernel_rfl) rfl #[.slice Ao85 t153.length co85, .int .i64 a2] rfl (by (try simp only [List.map_toArray, List.map_cons, List.map_nil]); first | done | rfl | (simp only [List.length_drop, List.length_take]; rfl)) ?_; (with_reducible refine (cubbyref07_within.calls kj71 _ _ t153 a2 true _ ?side1 ?side2 A80.out).mono ?_); (case side1 => repeat (first | exact (Kd.R_reads' HO155.out).2.2 | (with_reducible refine Kd.C_alloc ?_ _) | (with_reducible refine Kd.C_drewN ?_ _) | (with_reducible refine Kd.C_drew ?_))); (case side2 => exact (Kd.R_reads' HO155.out).2.1); rintro e w' ⟨rfl, ⟨nd, rfl⟩⟩; refine ⟨_, rfl, ?_⟩; (try clear A80)))
              (try simp only [Act.put, List.setIfInBounds_toArray, List.set_cons_zero, List.set_cons_succ])
              go_cut [95] (fun v95 wc => ∃ (kq : Nat) (x95_81 : Bool), v95 = .bool x95_81 ∧ Aside0 (cubbyref07_One.j4 kq x95_81 a0_0 a0_1 a0_2 a0_3 a0_4 l0_5 = some r) ∧ Aside0 (kq ≤ kj71) ∧ Aside0 (wc.heap[gb137]? = some (.cells #[.int .i64 a0_0, .int .i64 a0_1, .int .i64 a0_2, .int .i64 a0_3, .string a0_4, (.slice A0_5 l0_5.length c0_5)] 32 (0, 0))) ∧ Aside0 (Below w.heap.size w wc))
              case first =>
               have H := HC82.out
               clear HC82
               by_cases c86 : a0_0 = 11
               ·rw [if_pos c86] at H
                have c86b0 : (a0_0 == 11) = true := beq_iff_eq.mpr c86
                have c86b1 : (a0_0 != 11) = false := bne_eq_false_iff_eq.mpr c86
                clear c86
                (first | rw [c86b0] | (simp only [i64_w]; rw [c86b0]) | skip)
                replace H := Option.bind_eq_some_iff.mp H
                obtain ⟨t157, A870, H⟩ := H
                replace H : (cubbyref07_One.j4 kj71 (!t157) a0_0 a0_1 a0_2 a0_3 a0_4 l0_5) = some r := H
                have A87 := Aside0.mk A870
                clear A870
                have H' := Aside0.mk H
                clear H
                have hcz88_0 : w84.cell? ⟨gb137, 0, none⟩ = some (.int .i64 a0_0) := (bC BK137.out 0).trans rfl
                have hcz88_1 : w84.cell? ⟨gb137, 1, none⟩ = some (.int .i64 a0_1) := (bC BK137.out 1).trans rfl
                have hcz88_2 : w84.cell? ⟨gb137, 2, none⟩ = some (.int .i64 a0_2) := (bC BK137.out 2).trans rfl
                have hcz88_3 : w84.cell? ⟨gb137, 3, none⟩ = some (.int .i64 a0_3) := (bC BK137.out 3).trans rfl
                have hcz88_4 : w84.cell? ⟨gb137, 4, none⟩ = some (.string a0_4) := (bC BK137.out 4).trans rfl
                have hcz88_5 : w84.cell? ⟨gb137, 5, none⟩ = some (.slice A0_5 l0_5.length c0_5) := (bC BK137.out 5).trans rfl
                have hfz88_0 := bZ BK137.out 0
                have hfz88_1 := bZ BK137.out 1
                have hfz88_2 := bZ BK137.out 2
                have hfz88_3 := bZ BK137.out 3
                have hfz88_4 := bZ BK137.out 4
                have hfz88_5 := bZ BK137.out 5
                go_wp2_with (first | (go_at_call 29; (with_reducible refine (cubbyref07_Name.calls kj71 a0_4 t157 _ A87.out).mono ?_); rintro e w' ⟨rfl, ⟨nd, rfl⟩⟩; (try clear A87)))
                go_meet
                case rel => exact ⟨_, (!t157), (by first | rfl | (simp; done) | (simp [*]; done)), H', ⟨by have := HJ4.out; have := HJ17.out; have := HJ53.out; have := HJ71.out; first | omega | exact Nat.le_refl _⟩, ⟨by (with_reducible repeat (first | refine kN ?_ _ | refine blk_drew ?_ | refine kA ?_ _)); exact BK137.out⟩, ⟨by repeat (first | (with_reducible first | exact HB.out | apply bA | apply bN | apply bD | refine bS ?_ GE137.out) | exact HB.out)⟩⟩
               ·rw [if_neg c86] at H
                have c86b0 : (a0_0 == 11) = false := beq_eq_false_iff_ne.mpr c86
                have c86b1 : (a0_0 != 11) = true := bne_iff_ne.mpr c86
                (first | rw [c86b0] | (simp only [i64_w]; rw [c86b0]) | skip)
                have H' := Aside0.mk H
                clear H
                have hcz89_0 : w84.cell? ⟨gb137, 0, none⟩ = some (.int .i64 a0_0) := (bC BK137.out 0).trans rfl
                have hcz89_1 : w84.cell? ⟨gb137, 1, none⟩ = some (.int .i64 a0_1) := (bC BK137.out 1).trans rfl
                have hcz89_2 : w84.cell? ⟨gb137, 2, none⟩ = some (.int .i64 a0_2) := (bC BK137.out 2).trans rfl
                have hcz89_3 : w84.cell? ⟨gb137, 3, none⟩ = some (.int .i64 a0_3) := (bC BK137.out 3).trans rfl
                have hcz89_4 : w84.cell? ⟨gb137, 4, none⟩ = some (.string a0_4) := (bC BK137.out 4).trans rfl
                have hcz89_5 : w84.cell? ⟨gb137, 5, none⟩ = some (.slice A0_5 l0_5.length c0_5) := (bC BK137.out 5).trans rfl
                have hfz89_0 := bZ BK137.out 0
                have hfz89_1 := bZ BK137.out 1
                have hfz89_2 := bZ BK137.out 2
                have hfz89_3 := bZ BK137.out 3
                have hfz89_4 := bZ BK137.out 4
                have hfz89_5 := bZ BK137.out 5
                go_wp2
                go_meet
                case rel => exact ⟨_, (false), (by first | rfl | (simp; done) | (simp [*]; done)), H', ⟨by have := HJ4.out; have := HJ17.out; have := HJ53.out; have := HJ71.out; first | omega | exact Nat.le_refl _⟩, ⟨by (with_reducible repeat (first | refine kN ?_ _ | refine blk_drew ?_ | refine kA ?_ _)); exact BK137.out⟩, ⟨by repeat (first | (with_reducible first | exact HB.out | apply bA | apply bN | apply bD | refine bS ?_ GE137.out) | exact HB.out)⟩⟩
              case rest =>
               clear HC82
               try clear c1
               try clear c2
               try clear p2
               try clear c3
               try clear c5
               try clear c6
               try clear c7
               try clear c7b0
               try clear c8
               try clear c9
               try clear c9b0
               try clear c12
               try clear c12b0
               try clear c12b1
               try clear c12b2
               try clear c17
               try clear c20
               try clear c20b0
               try clear c20b1
               try clear c29
               try clear c29b0
               try clear c31
               try clear c35
               try clear c35b0
               try clear c53
               try clear c56
               try clear c56b0
               try clear c56b1
               try clear c57
               try clear c57b0
               try clear c57b1
               try clear c61
               try clear c61b0
               try clear c61b1
               try clear c68
               try clear c70
               try clear c71
               try clear c73
               try clear c73b0
               try clear c73b1
               try clear c74
               try clear c74b0
               try clear c78
               try clear c81
               try clear c86
               try clear c86b0
               try clear c86b1
               try clear hcz10_0
               try clear hcz10_1
               try clear hcz10_2
               try clear hcz10_3
               try clear hcz10_4
               try clear hcz10_5
               try clear hcz13_0
               try clear hcz13_1
               try clear hcz13_2
               try clear hcz13_3
               try clear hcz13_4
               try clear hcz13_5
               try clear hcz15_0
               try clear hcz15_1
               try clear hcz15_2
               try clear hcz15_3
               try clear hcz15_4
               try clear hcz15_5
               try clear hcz23_0
               try clear hcz23_1
               try clear hcz23_2
               try clear hcz23_3
               try clear hcz23_4
               try clear hcz23_5
               try clear hcz25_0
               try clear hcz25_1
               try clear hcz25_2
               try clear hcz25_3
               try clear hcz25_4
               try clear hcz25_5
               try clear hcz30_0
               try clear hcz30_1
               try clear hcz30_2
               try clear hcz30_3
               try clear hcz30_4
               try clear hcz30_5
               try clear hcz32_0
               try clear hcz32_1
               try clear hcz32_2
               try clear hcz32_3
               try clear hcz32_4
               try clear hcz32_5
               try clear hcz36_0
               try clear hcz36_1
               try clear hcz36_2
               try clear hcz36_3
               try clear hcz36_4
               try clear hcz36_5
               try clear hcz38_0
               try clear hcz38_1
               try clear hcz38_2
               try clear hcz38_3
               try clear hcz38_4
               try clear hcz38_5
               try clear hcz40_0
               try clear hcz40_1
               try clear hcz40_2
               try clear hcz40_3
               try clear hcz40_4
               try clear hcz40_5
               try clear hcz44_0
               try clear hcz44_1
               try clear hcz44_2
               try clear hcz44_3
               try clear hcz44_4
               try clear hcz44_5
               try clear hcz46_0
               try clear hcz46_1
               try clear hcz46_2
               try clear hcz46_3
               try clear hcz46_4
               try clear hcz46_5
               try clear hcz48_0
               try clear hcz48_1
               try clear hcz48_2
               try clear hcz48_3
               try clear hcz48_4
               try clear hcz48_5
               try clear hcz50_0
               try clear hcz50_1
               try clear hcz50_2
               try clear hcz50_3
               try clear hcz50_4
               try clear hcz50_5
               try clear hcz58_0
               try clear hcz58_1
               try clear hcz58_2
               try clear hcz58_3
               try clear hcz58_4
               try clear hcz58_5
               try clear hcz60_0
               try clear hcz60_1
               try clear hcz60_2
               try clear hcz60_3
               try clear hcz60_4
               try clear hcz60_5
               try clear hcz62_0
               try clear hcz62_1
               try clear hcz62_2
               try clear hcz62_3
               try clear hcz62_4
               try clear hcz62_5
               try clear hcz64_0
               try clear hcz64_1
               try clear hcz64_2
               try clear hcz64_3
               try clear hcz64_4
               try clear hcz64_5
               try clear hcz66_0
               try clear hcz66_1
               try clear hcz66_2
               try clear hcz66_3
               try clear hcz66_4
               try clear hcz66_5
               try clear hcz68_0
               try clear hcz68_1
               try clear hcz68_2
               try clear hcz68_3
               try clear hcz68_4
               try clear hcz68_5
               try clear hcz69_0
               try clear hcz69_1
               try clear hcz69_2
               try clear hcz69_3
               try clear hcz69_4
               try clear hcz69_5
               try clear hcz75_0
               try clear hcz75_1
               try clear hcz75_2
               try clear hcz75_3
               try clear hcz75_4
               try clear hcz75_5
               try clear hcz76_0
               try clear hcz76_1
               try clear hcz76_2
               try clear hcz76_3
               try clear hcz76_4
               try clear hcz76_5
               try clear hcz77_0
               try clear hcz77_1
               try clear hcz77_2
               try clear hcz77_3
               try clear hcz77_4
               try clear hcz77_5
               try clear hcz83_0
               try clear hcz83_1
               try clear hcz83_2
               try clear hcz83_3
               try clear hcz83_4
               try clear hcz83_5
               try clear hcz88_0
               try clear hcz88_1
               try clear hcz88_2
               try clear hcz88_3
               try clear hcz88_4
               try clear hcz88_5
               try clear hcz89_0
               try clear hcz89_1
               try clear hcz89_2
               try clear hcz89_3
               try clear hcz89_4
               try clear hcz89_5
               try clear hcz8_0
               try clear hcz8_1
               try clear hcz8_2
               try clear hcz8_3
               try clear hcz8_4
               try clear hcz8_5
               try clear hfz10_0
               try clear hfz10_1
               try clear hfz10_2
               try clear hfz10_3
               try clear hfz10_4
               try clear hfz10_5
               try clear hfz13_0
               try clear hfz13_1
               try clear hfz13_2
               try clear hfz13_3
               try clear hfz13_4
               try clear hfz13_5
               try clear hfz15_0
               try clear hfz15_1
               try clear hfz15_2
               try clear hfz15_3
               try clear hfz15_4
               try clear hfz15_5
               try clear hfz23_0
               try clear hfz23_1
               try clear hfz23_2
               try clear hfz23_3
               try clear hfz23_4
               try clear hfz23_5
               try clear hfz25_0
               try clear hfz25_1
               try clear hfz25_2
               try clear hfz25_3
               try clear hfz25_4
               try clear hfz25_5
               try clear hfz30_0
               try clear hfz30_1
               try clear hfz30_2
               try clear hfz30_3
               try clear hfz30_4
               try clear hfz30_5
               try clear hfz32_0
               try clear hfz32_1
               try clear hfz32_2
               try clear hfz32_3
               try clear hfz32_4
               try clear hfz32_5
               try clear hfz36_0
               try clear hfz36_1
               try clear hfz36_2
               try clear hfz36_3
               try clear hfz36_4
               try clear hfz36_5
               try clear hfz38_0
               try clear hfz38_1
               try clear hfz38_2
               try clear hfz38_3
               try clear hfz38_4
               try clear hfz38_5
               try clear hfz40_0
               try clear hfz40_1
               try clear hfz40_2
               try clear hfz40_3
               try clear hfz40_4
               try clear hfz40_5
               try clear hfz44_0
               try clear hfz44_1
               try clear hfz44_2
               try clear hfz44_3
               try clear hfz44_4
               try clear hfz44_5
               try clear hfz46_0
               try clear hfz46_1
               try clear hfz46_2
               try clear hfz46_3
               try clear hfz46_4
               try clear hfz46_5
               try clear hfz48_0
               try clear hfz48_1
               try clear hfz48_2
               try clear hfz48_3
               try clear hfz48_4
               try clear hfz48_5
               try clear hfz50_0
               try clear hfz50_1
               try clear hfz50_2
               try clear hfz50_3
               try clear hfz50_4
               try clear hfz50_5
               try clear hfz58_0
               try clear hfz58_1
               try clear hfz58_2
               try clear hfz58_3
               try clear hfz58_4
               try clear hfz58_5
               try clear hfz60_0
               try clear hfz60_1
               try clear hfz60_2
               try clear hfz60_3
               try clear hfz60_4
               try clear hfz60_5
               try clear hfz62_0
               try clear hfz62_1
               try clear hfz62_2
               try clear hfz62_3
               try clear hfz62_4
               try clear hfz62_5
               try clear hfz64_0
               try clear hfz64_1
               try clear hfz64_2
               try clear hfz64_3
               try clear hfz64_4
               try clear hfz64_5
               try clear hfz66_0
               try clear hfz66_1
               try clear hfz66_2
               try clear hfz66_3
               try clear hfz66_4
               try clear hfz66_5
               try clear hfz68_0
               try clear hfz68_1
               try clear hfz68_2
               try clear hfz68_3
               try clear hfz68_4
               try clear hfz68_5
               try clear hfz69_0
               try clear hfz69_1
               try clear hfz69_2
               try clear hfz69_3
               try clear hfz69_4
               try clear hfz69_5
               try clear hfz75_0
               try clear hfz75_1
               try clear hfz75_2
               try clear hfz75_3
               try clear hfz75_4
               try clear hfz75_5
               try clear hfz76_0
               try clear hfz76_1
               try clear hfz76_2
               try clear hfz76_3
               try clear hfz76_4
               try clear hfz76_5
               try clear hfz77_0
               try clear hfz77_1
               try clear hfz77_2
               try clear hfz77_3
               try clear hfz77_4
               try clear hfz77_5
               try clear hfz83_0
               try clear hfz83_1
               try clear hfz83_2
               try clear hfz83_3
               try clear hfz83_4
               try clear hfz83_5
               try clear hfz88_0
               try clear hfz88_1
               try clear hfz88_2
               try clear hfz88_3
               try clear hfz88_4
               try clear hfz88_5
               try clear hfz89_0
               try clear hfz89_1
               try clear hfz89_2
               try clear hfz89_3
               try clear hfz89_4
               try clear hfz89_5
               try clear hfz8_0
               try clear hfz8_1
               try clear hfz8_2
               try clear hfz8_3
               try clear hfz8_4
               try clear hfz8_5
               try clear p2
               obtain ⟨kq, x95_81, rfl, HA, HJ81, BK137, HB⟩ := hcut
               cases kq with
               | zero => exact absurd HA.out (by simp [cubbyref07_One.j4])
               | succ kj81 =>
                have H := HA.out
                clear HA
                simp only [cubbyref07_One.j4] at H
                by_cases c90 : x95_81 = true
                ·subst c90
                 have H1 : (some 70) = some r := by rw [if_pos rfl] at H; exact H
                 clear H
                 have H := H1
                 clear H1
                 obtain rfl := Option.some.inj H
                 go_wp2
                 go_ret
                 exact ⟨by first | rfl | (simp [errW_none, errW_some] <;> rfl) | (simp [*, errW_none, errW_some] <;> rfl), by repeat (first | (with_reducible first | exact HB.out | apply bA | apply bN | apply bD | refine bS ?_ GE137.out) | exact HB.out)⟩
                ·replace c90 := Bool.eq_false_iff.mpr c90
                 subst c90
                 have H1 : (if a0_0 = 11 then (if (l0_5.length : Int) > 4 then (some 192) else (some 0)) else (some 0)) = some r := by rw [if_neg (show ¬ (false = true) by decide)] at H; exact H
                 clear H
                 have H := H1
                 clear H1
                 by_cases c91 : a0_0 = 11
                 ·rw [if_pos c91] at H
                  have c91b0 : (a0_0 == 11) = true := beq_iff_eq.mpr c91
                  have c91b1 : (a0_0 != 11) = false := bne_eq_false_iff_eq.mpr c91
                  clear c91
                  by_cases c92 : (l0_5.length : Int) > 4
                  ·rw [if_pos c92] at H
                   have c92b0 : decide (4 < (l0_5.length : Int)) = true := decide_eq_true c92
                   have c92b1 : decide (4 < l0_5.length) = true := decide_eq_true (by omega)
                   clear c92
                   obtain rfl := Option.some.inj H
                   have hcz93_0 : wc.cell? ⟨gb137, 0, none⟩ = some (.int .i64 a0_0) := (bC BK137.out 0).trans rfl
                   have hcz93_1 : wc.cell? ⟨gb137, 1, none⟩ = some (.int .i64 a0_1) := (bC BK137.out 1).trans rfl
                   have hcz93_2 : wc.cell? ⟨gb137, 2, none⟩ = some (.int .i64 a0_2) := (bC BK137.out 2).trans rfl
                   have hcz93_3 : wc.cell? ⟨gb137, 3, none⟩ = some (.int .i64 a0_3) := (bC BK137.out 3).trans rfl
                   have hcz93_4 : wc.cell? ⟨gb137, 4, none⟩ = some (.string a0_4) := (bC BK137.out 4).trans rfl
                   have hcz93_5 : wc.cell? ⟨gb137, 5, none⟩ = some (.slice A0_5 l0_5.length c0_5) := (bC BK137.out 5).trans rfl
                   have hfz93_0 := bZ BK137.out 0
                   have hfz93_1 := bZ BK137.out 1
                   have hfz93_2 := bZ BK137.out 2
                   have hfz93_3 := bZ BK137.out 3
                   have hfz93_4 := bZ BK137.out 4
                   have hfz93_5 := bZ BK137.out 5
                   go_wp2
                   go_ret
                   exact ⟨by first | rfl | (simp [errW_none, errW_some] <;> rfl) | (simp [*, errW_none, errW_some] <;> rfl), by repeat (first | (with_reducible first | exact HB.out | apply bA | apply bN | apply bD | refine bS ?_ GE137.out) | exact HB.out)⟩
                  ·rw [if_neg c92] at H
                   have c92b0 : decide (4 < (l0_5.length : Int)) = false := decide_eq_false c92
                   have c92b1 : decide (4 < l0_5.length) = false := decide_eq_false (by omega)
                   clear c92
                   obtain rfl := Option.some.inj H
                   have hcz94_0 : wc.cell? ⟨gb137, 0, none⟩ = some (.int .i64 a0_0) := (bC BK137.out 0).trans rfl
                   have hcz94_1 : wc.cell? ⟨gb137, 1, none⟩ = some (.int .i64 a0_1) := (bC BK137.out 1).trans rfl
                   have hcz94_2 : wc.cell? ⟨gb137, 2, none⟩ = some (.int .i64 a0_2) := (bC BK137.out 2).trans rfl
                   have hcz94_3 : wc.cell? ⟨gb137, 3, none⟩ = some (.int .i64 a0_3) := (bC BK137.out 3).trans rfl
                   have hcz94_4 : wc.cell? ⟨gb137, 4, none⟩ = some (.string a0_4) := (bC BK137.out 4).trans rfl
                   have hcz94_5 : wc.cell? ⟨gb137, 5, none⟩ = some (.slice A0_5 l0_5.length c0_5) := (bC BK137.out 5).trans rfl
                   have hfz94_0 := bZ BK137.out 0
                   have hfz94_1 := bZ BK137.out 1
                   have hfz94_2 := bZ BK137.out 2
                   have hfz94_3 := bZ BK137.out 3
                   have hfz94_4 := bZ BK137.out 4
                   have hfz94_5 := bZ BK137.out 5
                   go_wp2
                   go_ret
                   exact ⟨by first | rfl | (simp [errW_none, errW_some] <;> rfl) | (simp [*, errW_none, errW_some] <;> rfl), by repeat (first | (with_reducible first | exact HB.out | apply bA | apply bN | apply bD | refine bS ?_ GE137.out) | exact HB.out)⟩
                 ·rw [if_neg c91] at H
                  have c91b0 : (a0_0 == 11) = false := beq_eq_false_iff_ne.mpr c91
                  have c91b1 : (a0_0 != 11) = true := bne_iff_ne.mpr c91
                  obtain rfl := Option.some.inj H
                  have hcz95_0 : wc.cell? ⟨gb137, 0, none⟩ = some (.int .i64 a0_0) := (bC BK137.out 0).trans rfl
                  have hcz95_1 : wc.cell? ⟨gb137, 1, none⟩ = some (.int .i64 a0_1) := (bC BK137.out 1).trans rfl
                  have hcz95_2 : wc.cell? ⟨gb137, 2, none⟩ = some (.int .i64 a0_2) := (bC BK137.out 2).trans rfl
                  have hcz95_3 : wc.cell? ⟨gb137, 3, none⟩ = some (.int .i64 a0_3) := (bC BK137.out 3).trans rfl
                  have hcz95_4 : wc.cell? ⟨gb137, 4, none⟩ = some (.string a0_4) := (bC BK137.out 4).trans rfl
                  have hcz95_5 : wc.cell? ⟨gb137, 5, none⟩ = some (.slice A0_5 l0_5.length c0_5) := (bC BK137.out 5).trans rfl
                  have hfz95_0 := bZ BK137.out 0
                  have hfz95_1 := bZ BK137.out 1
                  have hfz95_2 := bZ BK137.out 2
                  have hfz95_3 := bZ BK137.out 3
                  have hfz95_4 := bZ BK137.out 4
                  have hfz95_5 := bZ BK137.out 5
                  go_wp2
                  go_ret
                  exact ⟨by first | rfl | (simp [errW_none, errW_some] <;> rfl) | (simp [*, errW_none, errW_some] <;> rfl), by repeat (first | (with_reducible first | exact HB.out | apply bA | apply bN | apply bD | refine bS ?_ GE137.out) | exact HB.out)⟩
             ·replace c81 := Bool.eq_false_iff.mpr c81
              subst c81
              have H1 : (some 74) = some r := by rw [if_neg (show ¬ (false = true) by decide)] at H; exact H
              clear H
              have H := H1
              clear H1
              obtain rfl := Option.some.inj H
              have hcz96_0 : wc.cell? ⟨gb137, 0, none⟩ = some (.int .i64 a0_0) := (bC BK137.out 0).trans rfl
              have hcz96_1 : wc.cell? ⟨gb137, 1, none⟩ = some (.int .i64 a0_1) := (bC BK137.out 1).trans rfl
              have hcz96_2 : wc.cell? ⟨gb137, 2, none⟩ = some (.int .i64 a0_2) := (bC BK137.out 2).trans rfl
              have hcz96_3 : wc.cell? ⟨gb137, 3, none⟩ = some (.int .i64 a0_3) := (bC BK137.out 3).trans rfl
              have hcz96_4 : wc.cell? ⟨gb137, 4, none⟩ = some (.string a0_4) := (bC BK137.out 4).trans rfl
              have hcz96_5 : wc.cell? ⟨gb137, 5, none⟩ = some (.slice A0_5 l0_5.length c0_5) := (bC BK137.out 5).trans rfl
              have hfz96_0 := bZ BK137.out 0
              have hfz96_1 := bZ BK137.out 1
              have hfz96_2 := bZ BK137.out 2
              have hfz96_3 := bZ BK137.out 3
              have hfz96_4 := bZ BK137.out 4
              have hfz96_5 := bZ BK137.out 5
              go_wp2_with (first | ((with_reducible refine gate_callee (f := 70) rfl ?_); refine goesL_ (some 83) rfl rfl Tryd.func70 (by kernel_rfl) rfl #[.agg #[.int .i64 a0_0, .int .i64 a0_1, .int .i64 a0_2, .int .i64 a0_3, .string a0_4, .slice A0_5 l0_5.length c0_5]] rfl (by (try simp only [List.map_toArray, List.map_cons, List.map_nil]); first | done | rfl | (simp only [List.length_drop, List.length_take]; rfl)) ?_; (with_reducible refine (cubbyref07_Targets.calls a0_0 a0_1 a0_2 a0_3 a0_4 _ _ l0_5 t153 _ ?side1 ?side2 A79.out).mono ?_); (case side1 => repeat (first | exact (Kd.C_below HR0_5.out HB.out) | (with_reducible refine Kd.C_alloc ?_ _) | (with_reducible refine Kd.C_drewN ?_ _) | (with_reducible refine Kd.C_drew ?_))); (case side2 => exact HC0_5.out); rintro e w97 ⟨v154, rfl, ho0, hb⟩; refine ⟨_, rfl, ?_⟩; have n0_ := Aside0.mk (Kd.R_lower ho0 (below_size (by repeat (first | (with_reducible first | exact HB.out | apply bA | apply bN | apply bD | refine bS ?_ GE137.out) | exact HB.out)))); have n1_ := Aside0.mk (blk_below (g := gb137) (o := .cells #[.int .i64 a0_0, .int .i64 a0_1, .int .i64 a0_2, .int .i64 a0_3, .string a0_4, .slice A0_5 l0_5.length c0_5] 32 (0, 0)) (by (with_reducible repeat (first | refine kN ?_ _ | refine blk_drew ?_ | refine kA ?_ _)); exact BK137.out) hb); have n2_ := Aside0.mk (below_step (by repeat (first | (with_reducible first | exact HB.out | apply bA | apply bN | apply bD | refine bS ?_ GE137.out) | exact HB.out)) hb); clear BK137; clear HB; have HO155 := n0_; have BK137 := n1_; have HB := n2_; clear n0_ n1_ n2_; (try clear hb); (try clear hb2); (try clear hk); (try clear hi); (try clear ho0); obtain ⟨Ao98, co98, eo98⟩ := Kd.R_slice HO155.out; subst eo98) | ((with_reducible refine gate_callee (f := 68) rfl ?_); refine goesL_ (some 85) rfl rfl Tryd.func68 (by kernel_rfl) rfl #[.slice Ao98 t153.length co98, .int .i64 a2] rfl (by (try simp only [List.map_toArray, List.map_cons, List.map_nil]); first | done | rfl | (simp only [List.length_drop, List.length_take]; rfl)) ?_; (with_reducible refine (cubbyref07_within.calls kj71 _ _ t153 a2 false _ ?side1 ?side2 A80.out).mono ?_); (case side1 => repeat (first | exact (Kd.R_reads' HO155.out).2.2 | (with_reducible refine Kd.C_alloc ?_ _) | (with_reducible refine Kd.C_drewN ?_ _) | (with_reducible refine Kd.C_drew ?_))); (case side2 => exact (Kd.R_reads' HO155.out).2.1); rintro e w' ⟨rfl, ⟨nd, rfl⟩⟩; refine ⟨_, rfl, ?_⟩; (try clear A80)))
              go_ret
              exact ⟨by first | rfl | (simp [errW_none, errW_some] <;> rfl) | (simp [*, errW_none, errW_some] <;> rfl), by repeat (first | (with_reducible first | exact HB.out | apply bA | apply bN | apply bD | refine bS ?_ GE137.out) | exact HB.out)⟩
end Go.Proofs.YtoilapjkgligfaaDoor.P
