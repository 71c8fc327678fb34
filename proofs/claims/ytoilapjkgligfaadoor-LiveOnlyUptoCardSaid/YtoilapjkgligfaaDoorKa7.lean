import Derived.Test.YtoilapjkgligfaaDoorKP
import Derived.Test.YtoilapjkgligfaaDoorKa4
import Derived.Test.YtoilapjkgligfaaDoorKa6
namespace Go.Proofs.YtoilapjkgligfaaDoor.P
open Go.RowKit Go.Proofs.YtoilapjkgligfaaDoorW.PrintWords Go.Proofs.YtoilapjkgligfaaDoorW.PrintLast Go.Proofs.YtoilapjkgligfaaDoorW.PrintMore
attribute [local go_sem] max2_int min2_int max_two min_two max_three min_three max_four min_four 
set_option linter.unusedVariables false
set_option linter.unusedSimpArgs false
mutual
def cubbyref07_Check.l0 : Nat → Int → ByteArray → Int → Int → List (List (S32)) → Option (Int)
 | 0, _, _, _, _, _ => none
 | k + 1, x3, y0, y1, y2, y3 => if x3 < (y3.length : Int) then (cubbyref07_Check.l1 k x3 0 y0 y1 y2 y3) else (some 0)
def cubbyref07_Check.l1 : Nat → Int → Int → ByteArray → Int → Int → List (List (S32)) → Option (Int)
 | 0, _, _, _, _, _, _ => none
 | k + 1, x3, x4, y0, y1, y2, y3 => if 0 ≤ x3 then (if x3 < (y3.length : Int) then (if x4 < ((rd_LT32 y3 x3).length : Int) then (if 0 ≤ x4 then ((cubbyref07_One.f k ((rd_T32 (rd_LT32 y3 x3) x4).f0) ((rd_T32 (rd_LT32 y3 x3) x4).f1) ((rd_T32 (rd_LT32 y3 x3) x4).f2) ((rd_T32 (rd_LT32 y3 x3) x4).f3) ((rd_T32 (rd_LT32 y3 x3) x4).f4) ((rd_T32 (rd_LT32 y3 x3) x4).f5) y2 (y3.length : Int) (x4 == (wrap64 (((rd_LT32 y3 x3).length : Int) - 1)))).bind fun t165 => (if t165 = 0 then (cubbyref07_Check.l1 k x3 (wrap64 (x4 + 1)) y0 y1 y2 y3) else (some t165))) else (none)) else (cubbyref07_Check.l0 k (wrap64 (x3 + 1)) y0 y1 y2 y3)) else (none)) else (none)
end
def cubbyref07_Check.f (k : Nat) (a0_0 : ByteArray) (a0_1 : Int) (a0_2 : Int) (l0_3 : List (List (S32))) : Option (Int) := (cubbyref07_Name.f k a0_0).bind fun t159 => (if t159 = true then ((cubbyref07_Shape.f k a0_1 a0_2 l0_3).bind fun t160 => (if t160 = true then (cubbyref07_Check.l0 k 0 a0_0 a0_1 a0_2 l0_3) else (some 71))) else (some 70))
def cubbyref07_Check.T11 : Bool × List (List Nat × List Nat) := (true, [([], []), ([0], [0]), ([], []), ([1, 2], [1, 2]), ([3], [3]), ([], []), ([4, 5], [4, 5]), ([6], [6]), ([], []), ([8], [8]), ([], []), ([10], [10]), ([11], [11]), ([], []), ([], []), ([14], [14]), ([], []), ([15, 16], [15, 16]), ([17], [17]), ([18], [18]), ([19], [19]), ([13, 20], [13, 20]), ([7, 9, 12, 21], [7, 9, 12, 21]), ([22, 22, 0, 1, 2, 3, 4, 5, 6, 7, 8, 9, 10, 11, 12, 13, 14, 15, 16, 17, 18, 19, 20, 21, 22], [22])])
def cubbyref07_Check.B11 : List Nat := [0, 1, 0, 7, 15, 0, 63, 127, 0, 256, 0, 1024, 3072, 0, 0, 16384, 0, 114688, 245760, 507904, 1032192, 2088960, 4194303, 8388607]
theorem cubbyref07_Check.tab11 : rtab .any (opsOf Tryd.f11 11) = cubbyref07_Check.T11 := by kernel_rfl
theorem cubbyref07_Check.bits11 : waitsOk cubbyref07_Check.T11.2 cubbyref07_Check.B11 = true := by kernel_rfl
set_option maxHeartbeats 8000000 in
set_option maxRecDepth 100000 in
theorem cubbyref07_Check.calls (k : Nat) (a0_0 : ByteArray) (a0_1 : Int) (a0_2 : Int) (A0_3 : Option Addr) (c0_3 : Nat) (l0_3 : List (List (S32))) (r : Int) (w : World) (hr0_3 : Kd.C (Kd.slice 32 k32) w A0_3 l0_3.length l0_3) (hc0_3 : l0_3.length ≤ c0_3) (h : cubbyref07_Check.f k a0_0 a0_1 a0_2 l0_3 = some r) :
  Calls Tryd.prog 11 #[.agg #[.string a0_0, .int .i64 a0_1, .int .i64 a0_2, .slice A0_3 l0_3.length c0_3]] w fun e w' => e = .returned (.int .i64 r) ∧ Below w.heap.size w w' := by
 have hu24 := Tryd.underlying24
 have hu32 := Tryd.underlying32
 have HR0_3 := Aside0.mk hr0_3
 have HC0_3 := Aside0.mk hc0_3
 clear hr0_3 hc0_3
 have HB := Aside0.mk (Below.refl w.heap.size w)
 have H : ((cubbyref07_Name.f k a0_0).bind fun t159 => (if t159 = true then ((cubbyref07_Shape.f k a0_1 a0_2 l0_3).bind fun t160 => (if t160 = true then (cubbyref07_Check.l0 k 0 a0_0 a0_1 a0_2 l0_3) else (some 71))) else (some 70))) = some r := h
 clear h
 replace H := Option.bind_eq_some_iff.mp H
 obtain ⟨t159, A20, H⟩ := H
 replace H : (if t159 = true then ((cubbyref07_Shape.f k a0_1 a0_2 l0_3).bind fun t160 => (if t160 = true then (cubbyref07_Check.l0 k 0 a0_0 a0_1 a0_2 l0_3) else (some 71))) else (some 70)) = some r := H
 have A2 := Aside0.mk A20
 clear A20
 by_cases c3 : t159 = true
 ·subst c3
  have H1 : ((cubbyref07_Shape.f k a0_1 a0_2 l0_3).bind fun t160 => (if t160 = true then (cubbyref07_Check.l0 k 0 a0_0 a0_1 a0_2 l0_3) else (some 71))) = some r := by rw [if_pos rfl] at H; exact H
  clear H
  have H := H1
  clear H1
  replace H := Option.bind_eq_some_iff.mp H
  obtain ⟨t160, A40, H⟩ := H
  replace H : (if t160 = true then (cubbyref07_Check.l0 k 0 a0_0 a0_1 a0_2 l0_3) else (some 71)) = some r := H
  have A4 := Aside0.mk A40
  clear A40
  by_cases c5 : t160 = true
  ·subst c5
   have H1 : (cubbyref07_Check.l0 k 0 a0_0 a0_1 a0_2 l0_3) = some r := by rw [if_pos rfl] at H; exact H
   clear H
   have H := H1
   clear H1
   have H' := Aside0.mk H
   clear H
   go_enter Tryd.func11, Tryd.ntmps11
   go_wp2_with (first | ((with_reducible refine gate_dst (N := 1) rfl ?_); refine box_event ?hg (N := 1) ?hd (cs := #[.string a0_0, .int .i64 a0_1, .int .i64 a0_2, .slice A0_3 l0_3.length c0_3]) (t := 24) ?hr ?_; (case hd => rfl); (case hg => rfl); (case hr => first | (go_simp; done) | (go_simp; rfl)); intro gb158 hg w6 hbox hb; have n0_ := Aside0.mk (below_step (by repeat (first | (with_reducible first | exact HB.out | apply bA | apply bN | apply bD) | exact HB.out)) hb); have n1_ := Aside0.mk (hbox); have n2_ := Aside0.mk ((by rw [hg]; exact (below_size (by repeat (first | (with_reducible first | exact HB.out | apply bA | apply bN | apply bD) | exact HB.out))) : w.heap.size ≤ gb158)); have n3_ := Aside0.mk ((by rw [hg]; exact (below_size (by repeat (first | (with_reducible first | exact HB.out | apply bA | apply bN | apply bD) | exact HB.out))) : w.heap.size ≤ gb158)); clear HB; have HB := n0_; have BK158 := n1_; have GW158 := n2_; have GE158 := n3_; clear n0_ n1_ n2_ n3_; clear hb hbox hg; have hcz7_0 : w6.cell? ⟨gb158, 0, none⟩ = some (.string a0_0) := (bC BK158.out 0).trans rfl; have hcz7_1 : w6.cell? ⟨gb158, 1, none⟩ = some (.int .i64 a0_1) := (bC BK158.out 1).trans rfl; have hcz7_2 : w6.cell? ⟨gb158, 2, none⟩ = some (.int .i64 a0_2) := (bC BK158.out 2).trans rfl; have hcz7_3 : w6.cell? ⟨gb158, 3, none⟩ = some (.slice A0_3 l0_3.length c0_3) := (bC BK158.out 3).trans rfl; have hfz7_0 := bZ BK158.out 0; have hfz7_1 := bZ BK158.out 1; have hfz7_2 := bZ BK158.out 2; have hfz7_3 := bZ BK158.out 3) | ((with_reducible refine gate_callee (f := 29) rfl ?_); refine goesL_ (some 8) rfl rfl Tryd.func29 (by kernel_rfl) rfl #[.string a0_0] rfl (by (try simp only [List.map_toArray, List.map_cons, List.map_nil]); first | done | rfl | (simp only [List.length_drop, List.length_take]; rfl)) ?_; (with_reducible refine (cubbyref07_Name.calls k a0_0 true _ A2.out).mono ?_); rintro e w' ⟨rfl, ⟨nd, rfl⟩⟩; refine ⟨_, rfl, ?_⟩) | ((with_reducible refine gate_callee (f := 30) rfl ?_); refine goesL_ (some 16) rfl rfl Tryd.func30 (by kernel_rfl) rfl #[.int .i64 a0_1, .int .i64 a0_2, .slice A0_3 l0_3.length c0_3] rfl (by (try simp only [List.map_toArray, List.map_cons, List.map_nil]); first | done | rfl | (simp only [List.length_drop, List.length_take]; rfl)) ?_; (with_reducible refine (cubbyref07_Shape.calls k a0_1 a0_2 _ _ l0_3 true _ ?side1 ?side2 A4.out).mono ?_); (case side1 => repeat (first | exact (Kd.C_below HR0_3.out (by repeat (first | (with_reducible first | exact HB.out | apply bA | apply bN | apply bD | refine bS ?_ GE158.out) | exact HB.out))) | (with_reducible refine Kd.C_alloc ?_ _) | (with_reducible refine Kd.C_drewN ?_ _) | (with_reducible refine Kd.C_drew ?_))); (case side2 => exact HC0_3.out); rintro e w' ⟨rfl, ⟨nd, rfl⟩⟩; refine ⟨_, rfl, ?_⟩))
   go_loopg [3] k (fun kq v3 w' => ∃ (x3_1 : Int), v3 = .int .i64 x3_1 ∧ Aside0 (cubbyref07_Check.l0 kq x3_1 a0_0 a0_1 a0_2 l0_3 = some r) ∧ Aside0 (kq ≤ k) ∧ Aside0 (w'.heap[gb158]? = some (.cells #[.string a0_0, .int .i64 a0_1, .int .i64 a0_2, (.slice A0_3 l0_3.length c0_3)] 24 (0, 0))) ∧ Aside0 (Below w.heap.size w w'))
   case atStart => exact ⟨(0), (by first | rfl | (simp; done) | (simp [*]; done)), H', ⟨Nat.le_refl _⟩, ⟨by (with_reducible repeat (first | refine kN ?_ _ | refine blk_drew ?_ | refine kA ?_ _)); exact BK158.out⟩, ⟨by repeat (first | (with_reducible first | exact HB.out | apply bA | apply bN | apply bD | refine bS ?_ GE158.out) | exact HB.out)⟩⟩
   case round =>
    clear H'
    try clear c1
    try clear c2
    try clear p2
    try clear c3
    try clear c5
    try clear hcz7_0
    try clear hcz7_1
    try clear hcz7_2
    try clear hcz7_3
    try clear hfz7_0
    try clear hfz7_1
    try clear hfz7_2
    try clear hfz7_3
    obtain ⟨x3_1, rfl, HA, HK1, BK158, HB⟩ := hrel
    cases gk with
    | zero => exact absurd HA.out (by simp [cubbyref07_Check.l0])
    | succ k1 =>
     have H := HA.out
     clear HA
     simp only [cubbyref07_Check.l0] at H
     by_cases c8 : x3_1 < (l0_3.length : Int)
     ·rw [if_pos c8] at H
      have c8b0 : decide (x3_1 < (l0_3.length : Int)) = true := decide_eq_true c8
      clear c8
      have H' := Aside0.mk H
      clear H
      have hcz9_0 : wr.cell? ⟨gb158, 0, none⟩ = some (.string a0_0) := (bC BK158.out 0).trans rfl
      have hcz9_1 : wr.cell? ⟨gb158, 1, none⟩ = some (.int .i64 a0_1) := (bC BK158.out 1).trans rfl
      have hcz9_2 : wr.cell? ⟨gb158, 2, none⟩ = some (.int .i64 a0_2) := (bC BK158.out 2).trans rfl
      have hcz9_3 : wr.cell? ⟨gb158, 3, none⟩ = some (.slice A0_3 l0_3.length c0_3) := (bC BK158.out 3).trans rfl
      have hfz9_0 := bZ BK158.out 0
      have hfz9_1 := bZ BK158.out 1
      have hfz9_2 := bZ BK158.out 2
      have hfz9_3 := bZ BK158.out 3
      go_wp2
      go_loopg [4] k1 (fun kq v4 w' => ∃ (x4_2 : Int), v4 = .int .i64 x4_2 ∧ Aside0 (cubbyref07_Check.l1 kq x3_1 x4_2 a0_0 a0_1 a0_2 l0_3 = some r) ∧ Aside0 (kq ≤ k1) ∧ Aside0 (w'.heap[gb158]? = some (.cells #[.string a0_0, .int .i64 a0_1, .int .i64 a0_2, (.slice A0_3 l0_3.length c0_3)] 24 (0, 0))) ∧ Aside0 (Below w.heap.size w w'))
      case atStart => exact ⟨(0), (by first | rfl | (simp; done) | (simp [*]; done)), H', ⟨Nat.le_refl _⟩, ⟨by (with_reducible repeat (first | refine kN ?_ _ | refine blk_drew ?_ | refine kA ?_ _)); exact BK158.out⟩, ⟨by repeat (first | (with_reducible first | exact HB.out | apply bA | apply bN | apply bD | refine bS ?_ GE158.out) | exact HB.out)⟩⟩
      case round =>
       clear H'
       try clear c1
       try clear c2
       try clear p2
       try clear c3
       try clear c5
       try clear c8
       try clear c8b0
       try clear hcz7_0
       try clear hcz7_1
       try clear hcz7_2
       try clear hcz7_3
       try clear hcz9_0
       try clear hcz9_1
       try clear hcz9_2
       try clear hcz9_3
       try clear hfz7_0
       try clear hfz7_1
       try clear hfz7_2
       try clear hfz7_3
       try clear hfz9_0
       try clear hfz9_1
       try clear hfz9_2
       try clear hfz9_3
       try clear p2
       obtain ⟨x4_2, rfl, HA, HK2, BK158, HB⟩ := hrel
       cases gk with
       | zero => exact absurd HA.out (by simp [cubbyref07_Check.l1])
       | succ k2 =>
        have H := HA.out
        clear HA
        simp only [cubbyref07_Check.l1] at H
        by_cases c10 : 0 ≤ x3_1
        ·rw [if_pos c10] at H
         have c10b0 : decide (0 ≤ x3_1) = true := decide_eq_true c10
         clear c10
         by_cases c11 : x3_1 < (l0_3.length : Int)
         ·rw [if_pos c11] at H
          have c11b0 : decide (x3_1 < (l0_3.length : Int)) = true := decide_eq_true c11
          clear c11
          by_cases c12 : x4_2 < ((rd_LT32 l0_3 x3_1).length : Int)
          ·rw [if_pos c12] at H
           have c12b0 : decide (x4_2 < ((rd_LT32 l0_3 x3_1).length : Int)) = true := decide_eq_true c12
           clear c12
           by_cases c13 : 0 ≤ x4_2
           ·rw [if_pos c13] at H
            have c13b0 : decide (0 ≤ x4_2) = true := decide_eq_true c13
            clear c13
            replace H := Option.bind_eq_some_iff.mp H
            obtain ⟨t165, A140, H⟩ := H
            replace H : (if t165 = 0 then (cubbyref07_Check.l1 k2 x3_1 (wrap64 (x4_2 + 1)) a0_0 a0_1 a0_2 l0_3) else (some t165)) = some r := H
            have A14 := Aside0.mk A140
            clear A140
            by_cases c15 : t165 = 0
            ·rw [if_pos c15] at H
             have c15b0 : (t165 == 0) = true := beq_iff_eq.mpr c15
             have c15b1 : (t165 != 0) = false := bne_eq_false_iff_eq.mpr c15
             clear c15
             have H' := Aside0.mk H
             clear H
             have hcz16_0 : wr.cell? ⟨gb158, 0, none⟩ = some (.string a0_0) := (bC BK158.out 0).trans rfl
             have hcz16_1 : wr.cell? ⟨gb158, 1, none⟩ = some (.int .i64 a0_1) := (bC BK158.out 1).trans rfl
             have hcz16_2 : wr.cell? ⟨gb158, 2, none⟩ = some (.int .i64 a0_2) := (bC BK158.out 2).trans rfl
             have hcz16_3 : wr.cell? ⟨gb158, 3, none⟩ = some (.slice A0_3 l0_3.length c0_3) := (bC BK158.out 3).trans rfl
             have hfz16_0 := bZ BK158.out 0
             have hfz16_1 := bZ BK158.out 1
             have hfz16_2 := bZ BK158.out 2
             have hfz16_3 := bZ BK158.out 3
             have p161 : 0 ≤ (x3_1 : Int) := oD (by first | (with_reducible assumption) | assumption)
             have q161 : x3_1 < (l0_3.length : Int) := oD (by first | (with_reducible assumption) | assumption)
             obtain ⟨ad161, A161_0, c161_0, e161, hx161_0, hl161_0, hi161_0⟩ := at_LT32 HR0_3.out x3_1 p161 q161
             cases e161
             (try replace hx161_0 := (HB.out.cell (lC w _ hx161_0)).trans hx161_0)
             have HR161_0 := Aside0.mk hi161_0
             have HC161_0 := Aside0.mk hl161_0
             clear hi161_0 hl161_0
             replace p161 := eq_true p161
             replace q161 := eq_true q161
             try go_wp2
             have n0_ := Aside0.mk (blk_drew BK158.out)
             have n1_ := Aside0.mk (bD HB.out)
             clear BK158
             clear HB
             have BK158 := n0_
             have HB := n1_
             clear n0_ n1_
             have p162 : 0 ≤ (x3_1 : Int) := oD (by first | (with_reducible assumption) | assumption)
             have q162 : x3_1 < (l0_3.length : Int) := oD (by first | (with_reducible assumption) | assumption)
             obtain ⟨ad162, A162_0, c162_0, e162, hx162_0, hl162_0, hi162_0⟩ := at_LT32 HR0_3.out x3_1 p162 q162
             have hw162_0 := hx162_0
             obtain rfl : ad161 = ad162 := (by injection e162)
             (try replace hx162_0 := (HB.out.cell (lC w _ hx162_0)).trans hx162_0)
             have HR162_0 := Aside0.mk hi162_0
             have HC162_0 := Aside0.mk hl162_0
             clear hi162_0 hl162_0
             replace p162 := eq_true p162
             replace q162 := eq_true q162
             have p163 : 0 ≤ (x4_2 : Int) := oD (by first | (with_reducible assumption) | assumption)
             have q163 : x4_2 < ((rd_LT32 l0_3 x3_1).length : Int) := oD (by first | (with_reducible assumption) | assumption)
             obtain ⟨ad163, A163_5, c163_5, e163, hx163_0, hx163_1, hx163_2, hx163_3, hx163_4, hx163_5, hl163_5, hi163_5⟩ := at_T32 HR162_0.out x4_2 p163 q163
             have hw163_5 := hx163_5
             have hw163_4 := hx163_4
             have hw163_3 := hx163_3
             have hw163_2 := hx163_2
             have hw163_1 := hx163_1
             have hw163_0 := hx163_0
             cases e163
             (try replace hx163_0 := (HB.out.cell (lC w _ hx163_0)).trans hx163_0)
             (try replace hx163_1 := (HB.out.cell (lC w _ hx163_1)).trans hx163_1)
             (try replace hx163_2 := (HB.out.cell (lC w _ hx163_2)).trans hx163_2)
             (try replace hx163_3 := (HB.out.cell (lC w _ hx163_3)).trans hx163_3)
             (try replace hx163_4 := (HB.out.cell (lC w _ hx163_4)).trans hx163_4)
             (try replace hx163_5 := (HB.out.cell (lC w _ hx163_5)).trans hx163_5)
             have HR163_5 := Aside0.mk hi163_5
             have HC163_5 := Aside0.mk hl163_5
             clear hi163_5 hl163_5
             replace p163 := eq_true p163
             replace q163 := eq_true q163
             have p164 : 0 ≤ (x3_1 : Int) := oD (by first | (with_reducible assumption) | assumption)
             have q164 : x3_1 < (l0_3.length : Int) := oD (by first | (with_reducible assumption) | assumption)
             obtain ⟨ad164, A164_0, c164_0, e164, hx164_0, hl164_0, hi164_0⟩ := at_LT32 HR0_3.out x3_1 p164 q164
             have hw164_0 := hx164_0
             obtain rfl : ad161 = ad164 := (by injection e164)
             (try replace hx164_0 := (HB.out.cell (lC w _ hx164_0)).trans hx164_0)
             have HR164_0 := Aside0.mk hi164_0
             have HC164_0 := Aside0.mk hl164_0
             clear hi164_0 hl164_0
             replace p164 := eq_true p164
             replace q164 := eq_true q164
             have ea_ := Option.some.inj (hx162_0.symm.trans hx164_0)
             injection ea_ with ea_ en_ ec_
             subst ea_
             subst ec_
             clear en_
             refine start_ (n := 24) (S := fun w' => w'.cell? ⟨gb158, 0, none⟩ = some (.string a0_0) ∧ w'.cell? ⟨gb158, 1, none⟩ = some (.int .i64 a0_1) ∧ w'.cell? ⟨gb158, 2, none⟩ = some (.int .i64 a0_2) ∧ w'.cell? ⟨gb158, 3, none⟩ = some (.slice (some ad161) l0_3.length c0_3) ∧ w'.cell? (ad161.add (x3_1).toNat) = some (.slice (some ad163) (rd_LT32 l0_3 x3_1).length c162_0) ∧ w'.cell? (ad163.add ((x4_2).toNat * 6)) = some (.int .i64 ((rd_T32 (rd_LT32 l0_3 x3_1) x4_2).f0)) ∧ w'.cell? ⟨(ad163.add ((x4_2).toNat * 6)).block, (ad163.add ((x4_2).toNat * 6)).off + 1, none⟩ = some (.int .i64 ((rd_T32 (rd_LT32 l0_3 x3_1) x4_2).f1)) ∧ w'.cell? ⟨(ad163.add ((x4_2).toNat * 6)).block, (ad163.add ((x4_2).toNat * 6)).off + 2, none⟩ = some (.int .i64 ((rd_T32 (rd_LT32 l0_3 x3_1) x4_2).f2)) ∧ w'.cell? ⟨(ad163.add ((x4_2).toNat * 6)).block, (ad163.add ((x4_2).toNat * 6)).off + 3, none⟩ = some (.int .i64 ((rd_T32 (rd_LT32 l0_3 x3_1) x4_2).f3)) ∧ w'.cell? ⟨(ad163.add ((x4_2).toNat * 6)).block, (ad163.add ((x4_2).toNat * 6)).off + 4, none⟩ = some (.string ((rd_T32 (rd_LT32 l0_3 x3_1) x4_2).f4)) ∧ w'.cell? ⟨(ad163.add ((x4_2).toNat * 6)).block, (ad163.add ((x4_2).toNat * 6)).off + 5, none⟩ = some (.slice A163_5 ((rd_T32 (rd_LT32 l0_3 x3_1) x4_2).f5).length c163_5) ∧ w'.cell? (ad161.add (x3_1).toNat) = some (.slice (some ad163) (rd_LT32 l0_3 x3_1).length c162_0)) (ds := []) #[false, false, false, false, false, false, false, false, false, false, false, false, false, false, false, false, false, false, false, false, false, false, false, false] (by kernel_rfl) rfl rfl ⟨(bC BK158.out 0).trans rfl, (bC BK158.out 1).trans rfl, (bC BK158.out 2).trans rfl, (bC BK158.out 3).trans rfl, ((HB.out.cell (lC w _ hw162_0)).trans hw162_0), ((HB.out.cell (lC w _ hw163_0)).trans hw163_0), ((HB.out.cell (lC w _ hw163_1)).trans hw163_1), ((HB.out.cell (lC w _ hw163_2)).trans hw163_2), ((HB.out.cell (lC w _ hw163_3)).trans hw163_3), ((HB.out.cell (lC w _ hw163_4)).trans hw163_4), ((HB.out.cell (lC w _ hw163_5)).trans hw163_5), ((HB.out.cell (lC w _ hw164_0)).trans hw164_0)⟩ (fun hHeld => ?_); refine with_tabW cubbyref07_Check.tab11 cubbyref07_Check.bits11 (fun HT_ HW_ => ?_)
             generalize wr.drew = w17 at BK158 HB HR162_0 HR163_5 HR164_0 hx162_0 hx163_0 hx163_1 hx163_2 hx163_3 hx163_4 hx163_5 hx164_0 hHeld ⊢
             refine pure_ (i := 0) (N := some 35) (v := ?_) (a' := ?_) #[true, false, false, false, false, false, false, false, false, false, false, false, false, false, false, false, false, false, false, false, false, false, false, false] rfl rfl (any_of HT_.out (by kernel_rfl)) (fun _ _ _ h => h) (Or.inl ⟨by rfl, ?_⟩) ?_ ?_
             rotate_left
             ·intro w'
              go_simp
              with_reducible rfl
             rotate_left
             ·simp only [Act.put, List.setIfInBounds_toArray, List.set_cons_zero, List.set_cons_succ, i64_w]
              rfl
             refine pure_ (i := 2) (N := some 37) (v := ?_) (a' := ?_) #[true, false, true, false, false, false, false, false, false, false, false, false, false, false, false, false, false, false, false, false, false, false, false, false] rfl rfl (any_of HT_.out (by kernel_rfl)) (fun _ _ _ h => h) (Or.inl ⟨by rfl, ?_⟩) ?_ ?_
             rotate_left
             ·intro w'
              go_simp
              with_reducible rfl
             rotate_left
             ·simp only [Act.put, List.setIfInBounds_toArray, List.set_cons_zero, List.set_cons_succ, i64_w]
              rfl
             refine pure_ (i := 5) (N := some 40) (v := ?_) (a' := ?_) #[true, false, true, false, false, true, false, false, false, false, false, false, false, false, false, false, false, false, false, false, false, false, false, false] rfl rfl (any_of HT_.out (by kernel_rfl)) (fun _ _ _ h => h) (Or.inl ⟨by rfl, ?_⟩) ?_ ?_
             rotate_left
             ·intro w'
              go_simp
              with_reducible rfl
             rotate_left
             ·simp only [Act.put, List.setIfInBounds_toArray, List.set_cons_zero, List.set_cons_succ, i64_w]
              rfl
             refine pure_ (i := 8) (N := some 43) (v := ?_) (a' := ?_) #[true, false, true, false, false, true, false, false, true, false, false, false, false, false, false, false, false, false, false, false, false, false, false, false] rfl rfl (any_of HT_.out (by kernel_rfl)) (fun _ _ _ h => h) (Or.inl ⟨by rfl, ?_⟩) ?_ ?_
             rotate_left
             ·intro w'
              go_simp
              with_reducible rfl
             rotate_left
             ·simp only [Act.put, List.setIfInBounds_toArray, List.set_cons_zero, List.set_cons_succ, i64_w]
              rfl
             refine pure_ (i := 10) (N := some 45) (v := ?_) (a' := ?_) #[true, false, true, false, false, true, false, false, true, false, true, false, false, false, false, false, false, false, false, false, false, false, false, false] rfl rfl (any_of HT_.out (by kernel_rfl)) (fun _ _ _ h => h) (Or.inl ⟨by rfl, ?_⟩) ?_ ?_
             rotate_left
             ·intro w'
              go_simp
              with_reducible rfl
             rotate_left
             ·simp only [Act.put, List.setIfInBounds_toArray, List.set_cons_zero, List.set_cons_succ, i64_w]
              rfl
             refine pure_ (i := 13) (N := some 48) (v := ?_) (a' := ?_) #[true, false, true, false, false, true, false, false, true, false, true, false, false, true, false, false, false, false, false, false, false, false, false, false] rfl rfl (any_of HT_.out (by kernel_rfl)) (fun _ _ _ h => h) (Or.inl ⟨by rfl, ?_⟩) ?_ ?_
             rotate_left
             ·intro w'
              go_simp
              with_reducible rfl
             rotate_left
             ·simp only [Act.put, List.setIfInBounds_toArray, List.set_cons_zero, List.set_cons_succ, i64_w]
              rfl
             refine pure_ (i := 14) (N := some 49) (v := ?_) (a' := ?_) #[true, false, true, false, false, true, false, false, true, false, true, false, false, true, true, false, false, false, false, false, false, false, false, false] rfl rfl (any_of HT_.out (by kernel_rfl)) (fun _ _ _ h => h) (Or.inl ⟨by rfl, ?_⟩) ?_ ?_
             rotate_left
             ·intro w'
              go_simp
              with_reducible rfl
             rotate_left
             ·simp only [Act.put, List.setIfInBounds_toArray, List.set_cons_zero, List.set_cons_succ, i64_w]
              rfl
             refine pure_ (i := 16) (N := some 51) (v := ?_) (a' := ?_) #[true, false, true, false, false, true, false, false, true, false, true, false, false, true, true, false, true, false, false, false, false, false, false, false] rfl rfl (any_of HT_.out (by kernel_rfl)) (fun _ _ _ h => h) (Or.inl ⟨by rfl, ?_⟩) ?_ ?_
             rotate_left
             ·intro w'
              go_simp
              with_reducible rfl
             rotate_left
             ·simp only [Act.put, List.setIfInBounds_toArray, List.set_cons_zero, List.set_cons_succ, i64_w]
              rfl
             refine take_ (i := 1) (N := some 36) (v := ?_) (a' := ?_) #[true, true, true, false, false, true, false, false, true, false, true, false, false, true, true, false, true, false, false, false, false, false, false, false] rfl rfl (take_ofW HT_.out HW_.out (by kernel_rfl)) (fun _ _ _ h => h) (Or.inl ⟨by rfl, ?_⟩) hHeld ?_ ?_
             rotate_left
             ·rintro w' ⟨s0, s1, s2, s3, s4, s5, s6, s7, s8, s9, s10, s11⟩
              go_simp
              with_reducible rfl
             rotate_left
             ·simp only [Act.put, List.setIfInBounds_toArray, List.set_cons_zero, List.set_cons_succ, i64_w]
              rfl
             refine pure_ (i := 3) (N := some 38) (v := ?_) (a' := ?_) #[true, true, true, true, false, true, false, false, true, false, true, false, false, true, true, false, true, false, false, false, false, false, false, false] rfl rfl (any_of HT_.out (by kernel_rfl)) (fun _ _ _ h => h) (Or.inl ⟨by rfl, ?_⟩) ?_ ?_
             rotate_left
             ·intro w'
              go_simp
              with_reducible rfl
             rotate_left
             ·simp only [Act.put, List.setIfInBounds_toArray, List.set_cons_zero, List.set_cons_succ, i64_w]
              rfl
             refine take_ (i := 4) (N := some 39) (v := ?_) (a' := ?_) #[true, true, true, true, true, true, false, false, true, false, true, false, false, true, true, false, true, false, false, false, false, false, false, false] rfl rfl (take_ofW HT_.out HW_.out (by kernel_rfl)) (fun _ _ _ h => h) (Or.inl ⟨by rfl, ?_⟩) hHeld ?_ ?_
             rotate_left
             ·rintro w' ⟨s0, s1, s2, s3, s4, s5, s6, s7, s8, s9, s10, s11⟩
              go_simp
              with_reducible rfl
             rotate_left
             ·simp only [Act.put, List.setIfInBounds_toArray, List.set_cons_zero, List.set_cons_succ, i64_w]
              rfl
             refine pure_ (i := 6) (N := some 41) (v := ?_) (a' := ?_) #[true, true, true, true, true, true, true, false, true, false, true, false, false, true, true, false, true, false, false, false, false, false, false, false] rfl rfl (any_of HT_.out (by kernel_rfl)) (fun _ _ _ h => h) (Or.inl ⟨by rfl, ?_⟩) ?_ ?_
             rotate_left
             ·intro w'
              go_simp
              with_reducible rfl
             rotate_left
             ·simp only [Act.put, List.setIfInBounds_toArray, List.set_cons_zero, List.set_cons_succ, i64_w]
              rfl
             refine take_ (i := 7) (N := some 42) (v := ?_) (a' := ?_) #[true, true, true, true, true, true, true, true, true, false, true, false, false, true, true, false, true, false, false, false, false, false, false, false] rfl rfl (take_ofW HT_.out HW_.out (by kernel_rfl)) (fun _ _ _ h => h) (Or.inl ⟨by rfl, ?_⟩) hHeld ?_ ?_
             rotate_left
             ·rintro w' ⟨s0, s1, s2, s3, s4, s5, s6, s7, s8, s9, s10, s11⟩
              go_simp
              with_reducible rfl
             rotate_left
             ·simp only [Act.put, List.setIfInBounds_toArray, List.set_cons_zero, List.set_cons_succ, i64_w]
              rfl
             refine take_ (i := 9) (N := some 44) (v := ?_) (a' := ?_) #[true, true, true, true, true, true, true, true, true, true, true, false, false, true, true, false, true, false, false, false, false, false, false, false] rfl rfl (take_ofW HT_.out HW_.out (by kernel_rfl)) (fun _ _ _ h => h) (Or.inl ⟨by rfl, ?_⟩) hHeld ?_ ?_
             rotate_left
             ·rintro w' ⟨s0, s1, s2, s3, s4, s5, s6, s7, s8, s9, s10, s11⟩
              go_simp
              with_reducible rfl
             rotate_left
             ·simp only [Act.put, List.setIfInBounds_toArray, List.set_cons_zero, List.set_cons_succ, i64_w]
              rfl
             refine take_ (i := 11) (N := some 46) (v := ?_) (a' := ?_) #[true, true, true, true, true, true, true, true, true, true, true, true, false, true, true, false, true, false, false, false, false, false, false, false] rfl rfl (take_ofW HT_.out HW_.out (by kernel_rfl)) (fun _ _ _ h => h) (Or.inl ⟨by rfl, ?_⟩) hHeld ?_ ?_
             rotate_left
             ·rintro w' ⟨s0, s1, s2, s3, s4, s5, s6, s7, s8, s9, s10, s11⟩
              go_simp
              with_reducible rfl
             rotate_left
             ·simp only [Act.put, List.setIfInBounds_toArray, List.set_cons_zero, List.set_cons_succ, i64_w]
              rfl
             refine pure_ (i := 12) (N := some 47) (v := ?_) (a' := ?_) #[true, true, true, true, true, true, true, true, true, true, true, true, true, true, true, false, true, false, false, false, false, false, false, false] rfl rfl (any_of HT_.out (by kernel_rfl)) (fun _ _ _ h => h) (Or.inl ⟨by rfl, ?_⟩) ?_ ?_
             rotate_left
             ·intro w'
              go_simp
              with_reducible rfl
             rotate_left
             ·simp only [Act.put, List.setIfInBounds_toArray, List.set_cons_zero, List.set_cons_succ, i64_w]
              rfl
             refine take_ (i := 15) (N := some 50) (v := ?_) (a' := ?_) #[true, true, true, true, true, true, true, true, true, true, true, true, true, true, true, true, true, false, false, false, false, false, false, false] rfl rfl (take_ofW HT_.out HW_.out (by kernel_rfl)) (fun _ _ _ h => h) (Or.inl ⟨by rfl, ?_⟩) hHeld ?_ ?_
             rotate_left
             ·rintro w' ⟨s0, s1, s2, s3, s4, s5, s6, s7, s8, s9, s10, s11⟩
              go_simp
              with_reducible rfl
             rotate_left
             ·simp only [Act.put, List.setIfInBounds_toArray, List.set_cons_zero, List.set_cons_succ, i64_w]
              rfl
             refine pure_ (i := 17) (N := some 52) (v := ?_) (a' := ?_) #[true, true, true, true, true, true, true, true, true, true, true, true, true, true, true, true, true, true, false, false, false, false, false, false] rfl rfl (any_of HT_.out (by kernel_rfl)) (fun _ _ _ h => h) (Or.inl ⟨by rfl, ?_⟩) ?_ ?_
             rotate_left
             ·intro w'
              go_simp
              with_reducible rfl
             rotate_left
             ·simp only [Act.put, List.setIfInBounds_toArray, List.set_cons_zero, List.set_cons_succ, i64_w]
              rfl
             refine take_ (i := 18) (N := some 53) (v := ?_) (a' := ?_) #[true, true, true, true, true, true, true, true, true, true, true, true, true, true, true, true, true, true, true, false, false, false, false, false] rfl rfl (take_ofW HT_.out HW_.out (by kernel_rfl)) (fun _ _ _ h => h) (Or.inl ⟨by rfl, ?_⟩) hHeld ?_ ?_
             rotate_left
             ·rintro w' ⟨s0, s1, s2, s3, s4, s5, s6, s7, s8, s9, s10, s11⟩
              go_simp
              with_reducible rfl
             rotate_left
             ·simp only [Act.put, List.setIfInBounds_toArray, List.set_cons_zero, List.set_cons_succ, i64_w]
              rfl
             refine pure_ (i := 19) (N := some 54) (v := ?_) (a' := ?_) #[true, true, true, true, true, true, true, true, true, true, true, true, true, true, true, true, true, true, true, true, false, false, false, false] rfl rfl (any_of HT_.out (by kernel_rfl)) (fun _ _ _ h => h) (Or.inl ⟨by rfl, ?_⟩) ?_ ?_
             rotate_left
             ·intro w'
              go_simp
              with_reducible rfl
             rotate_left
             ·simp only [Act.put, List.setIfInBounds_toArray, List.set_cons_zero, List.set_cons_succ, i64_w]
              rfl
             refine pure_ (i := 20) (N := some 55) (v := ?_) (a' := ?_) #[true, true, true, true, true, true, true, true, true, true, true, true, true, true, true, true, true, true, true, true, true, false, false, false] rfl rfl (any_of HT_.out (by kernel_rfl)) (fun _ _ _ h => h) (Or.inl ⟨by rfl, ?_⟩) ?_ ?_
             rotate_left
             ·intro w'
              go_simp
              with_reducible rfl
             rotate_left
             ·simp only [Act.put, List.setIfInBounds_toArray, List.set_cons_zero, List.set_cons_succ, i64_w]
              rfl
             refine pure_ (i := 21) (N := some 56) (v := ?_) (a' := ?_) #[true, true, true, true, true, true, true, true, true, true, true, true, true, true, true, true, true, true, true, true, true, true, false, false] rfl rfl (any_of HT_.out (by kernel_rfl)) (fun _ _ _ h => h) (Or.inl ⟨by rfl, ?_⟩) ?_ ?_
             rotate_left
             ·intro w'
              go_simp
              with_reducible rfl
             rotate_left
             ·simp only [Act.put, List.setIfInBounds_toArray, List.set_cons_zero, List.set_cons_succ, i64_w]
              rfl
             refine one_ (i := 22) (N := some 57) #[true, true, true, true, true, true, true, true, true, true, true, true, true, true, true, true, true, true, true, true, true, true, true, false] rfl rfl (one_of HT_.out (by kernel_rfl)) (by decide) (fun K hK => ?_)
             refine goes_ Tryd.func31 (by kernel_rfl) rfl #[.agg #[.int .i64 ((rd_T32 (rd_LT32 l0_3 x3_1) x4_2).f0), .int .i64 ((rd_T32 (rd_LT32 l0_3 x3_1) x4_2).f1), .int .i64 ((rd_T32 (rd_LT32 l0_3 x3_1) x4_2).f2), .int .i64 ((rd_T32 (rd_LT32 l0_3 x3_1) x4_2).f3), .string ((rd_T32 (rd_LT32 l0_3 x3_1) x4_2).f4), .slice A163_5 ((rd_T32 (rd_LT32 l0_3 x3_1) x4_2).f5).length c163_5], .int .i64 a0_2, .int .i64 (l0_3.length : Int), .bool (x4_2 == (wrap64 (((rd_LT32 l0_3 x3_1).length : Int) - 1)))] (by rfl) rfl rfl (by (try simp only [List.map_toArray, List.map_cons, List.map_nil]); first | done | rfl | (simp only [List.length_drop, List.length_take]; rfl)) ?_
             with_reducible refine (cubbyref07_One.calls k2 ((rd_T32 (rd_LT32 l0_3 x3_1) x4_2).f0) ((rd_T32 (rd_LT32 l0_3 x3_1) x4_2).f1) ((rd_T32 (rd_LT32 l0_3 x3_1) x4_2).f2) ((rd_T32 (rd_LT32 l0_3 x3_1) x4_2).f3) ((rd_T32 (rd_LT32 l0_3 x3_1) x4_2).f4) _ _ ((rd_T32 (rd_LT32 l0_3 x3_1) x4_2).f5) a0_2 (l0_3.length : Int) (x4_2 == (wrap64 (((rd_LT32 l0_3 x3_1).length : Int) - 1))) t165 _ ?side1 ?side2 A14.out).mono ?_
             (case side1 => repeat (first | exact (Kd.C_below HR163_5.out HB.out) | (with_reducible refine Kd.C_alloc ?_ _) | (with_reducible refine Kd.C_drewN ?_ _) | (with_reducible refine Kd.C_drew ?_)))
             (case side2 => exact HC163_5.out)
             rintro e w18 ⟨rfl, hb⟩
             refine ⟨_, rfl, ?_⟩
             have n0_ := Aside0.mk (blk_below (g := gb158) (o := .cells #[.string a0_0, .int .i64 a0_1, .int .i64 a0_2, .slice (some ad161) l0_3.length c0_3] 24 (0, 0)) (by (with_reducible repeat (first | refine kN ?_ _ | refine blk_drew ?_ | refine kA ?_ _)); exact BK158.out) hb)
             have n1_ := Aside0.mk (below_step (by repeat (first | (with_reducible first | exact HB.out | apply bA | apply bN | apply bD | refine bS ?_ GE158.out) | exact HB.out)) hb)
             clear BK158
             clear HB
             have BK158 := n0_
             have HB := n1_
             clear n0_ n1_
             (try clear hb)
             (try clear hb2)
             (try clear hk)
             (try clear hi)
             refine hK.out _ _ ⟨(bC BK158.out 0).trans rfl, (bC BK158.out 1).trans rfl, (bC BK158.out 2).trans rfl, (bC BK158.out 3).trans rfl, ((HB.out.cell (lC w _ hw162_0)).trans hw162_0), ((HB.out.cell (lC w _ hw163_0)).trans hw163_0), ((HB.out.cell (lC w _ hw163_1)).trans hw163_1), ((HB.out.cell (lC w _ hw163_2)).trans hw163_2), ((HB.out.cell (lC w _ hw163_3)).trans hw163_3), ((HB.out.cell (lC w _ hw163_4)).trans hw163_4), ((HB.out.cell (lC w _ hw163_5)).trans hw163_5), ((HB.out.cell (lC w _ hw164_0)).trans hw164_0)⟩ (fun hHeld => ?_)
             clear hK K
             refine norm_ (a' := ?_) ?_ ?_
             rotate_left
             ·show Act.put _ (some 57) _ = _
              simp only [Act.put, List.setIfInBounds_toArray, List.set_cons_zero, List.set_cons_succ, i64_w]
              rfl
             refine pure_ (i := 23) (N := some 5) (v := ?_) (a' := ?_) #[true, true, true, true, true, true, true, true, true, true, true, true, true, true, true, true, true, true, true, true, true, true, true, true] rfl rfl (any_of HT_.out (by kernel_rfl)) (fun _ _ _ h => h) (Or.inl ⟨by rfl, ?_⟩) ?_ ?_
             rotate_left
             ·intro w'
              go_simp
              with_reducible rfl
             rotate_left
             ·simp only [Act.put, List.setIfInBounds_toArray, List.set_cons_zero, List.set_cons_succ, i64_w]
              rfl
             refine done_ (done_of HT_.out (by kernel_rfl)) ?_
             try go_wp2
             go_roundg k2
             case measure => have := HK1.out; have := HK2.out; omega
             case rel => exact ⟨(wrap64 (x4_2 + 1)), (by first | rfl | (simp; done) | (simp [*]; done)), H', ⟨by have := HK1.out; have := HK2.out; omega⟩, ⟨by (with_reducible repeat (first | refine kN ?_ _ | refine blk_drew ?_ | refine kA ?_ _)); exact BK158.out⟩, ⟨by repeat (first | (with_reducible first | exact HB.out | apply bA | apply bN | apply bD | refine bS ?_ GE158.out) | exact HB.out)⟩⟩
            ·rw [if_neg c15] at H
             have c15b0 : (t165 == 0) = false := beq_eq_false_iff_ne.mpr c15
             have c15b1 : (t165 != 0) = true := bne_iff_ne.mpr c15
             obtain rfl := Option.some.inj H
             have hcz19_0 : wr.cell? ⟨gb158, 0, none⟩ = some (.string a0_0) := (bC BK158.out 0).trans rfl
             have hcz19_1 : wr.cell? ⟨gb158, 1, none⟩ = some (.int .i64 a0_1) := (bC BK158.out 1).trans rfl
             have hcz19_2 : wr.cell? ⟨gb158, 2, none⟩ = some (.int .i64 a0_2) := (bC BK158.out 2).trans rfl
             have hcz19_3 : wr.cell? ⟨gb158, 3, none⟩ = some (.slice A0_3 l0_3.length c0_3) := (bC BK158.out 3).trans rfl
             have hfz19_0 := bZ BK158.out 0
             have hfz19_1 := bZ BK158.out 1
             have hfz19_2 := bZ BK158.out 2
             have hfz19_3 := bZ BK158.out 3
             have p161 : 0 ≤ (x3_1 : Int) := oD (by first | (with_reducible assumption) | assumption)
             have q161 : x3_1 < (l0_3.length : Int) := oD (by first | (with_reducible assumption) | assumption)
             obtain ⟨ad161, A161_0, c161_0, e161, hx161_0, hl161_0, hi161_0⟩ := at_LT32 HR0_3.out x3_1 p161 q161
             cases e161
             (try replace hx161_0 := (HB.out.cell (lC w _ hx161_0)).trans hx161_0)
             have HR161_0 := Aside0.mk hi161_0
             have HC161_0 := Aside0.mk hl161_0
             clear hi161_0 hl161_0
             replace p161 := eq_true p161
             replace q161 := eq_true q161
             try go_wp2
             have n0_ := Aside0.mk (blk_drew BK158.out)
             have n1_ := Aside0.mk (bD HB.out)
             clear BK158
             clear HB
             have BK158 := n0_
             have HB := n1_
             clear n0_ n1_
             have p162 : 0 ≤ (x3_1 : Int) := oD (by first | (with_reducible assumption) | assumption)
             have q162 : x3_1 < (l0_3.length : Int) := oD (by first | (with_reducible assumption) | assumption)
             obtain ⟨ad162, A162_0, c162_0, e162, hx162_0, hl162_0, hi162_0⟩ := at_LT32 HR0_3.out x3_1 p162 q162
             have hw162_0 := hx162_0
             obtain rfl : ad161 = ad162 := (by injection e162)
             (try replace hx162_0 := (HB.out.cell (lC w _ hx162_0)).trans hx162_0)
             have HR162_0 := Aside0.mk hi162_0
             have HC162_0 := Aside0.mk hl162_0
             clear hi162_0 hl162_0
             replace p162 := eq_true p162
             replace q162 := eq_true q162
             have p163 : 0 ≤ (x4_2 : Int) := oD (by first | (with_reducible assumption) | assumption)
             have q163 : x4_2 < ((rd_LT32 l0_3 x3_1).length : Int) := oD (by first | (with_reducible assumption) | assumption)
             obtain ⟨ad163, A163_5, c163_5, e163, hx163_0, hx163_1, hx163_2, hx163_3, hx163_4, hx163_5, hl163_5, hi163_5⟩ := at_T32 HR162_0.out x4_2 p163 q163
             have hw163_5 := hx163_5
             have hw163_4 := hx163_4
             have hw163_3 := hx163_3
             have hw163_2 := hx163_2
             have hw163_1 := hx163_1
             have hw163_0 := hx163_0
             cases e163
             (try replace hx163_0 := (HB.out.cell (lC w _ hx163_0)).trans hx163_0)
             (try replace hx163_1 := (HB.out.cell (lC w _ hx163_1)).trans hx163_1)
             (try replace hx163_2 := (HB.out.cell (lC w _ hx163_2)).trans hx163_2)
             (try replace hx163_3 := (HB.out.cell (lC w _ hx163_3)).trans hx163_3)
             (try replace hx163_4 := (HB.out.cell (lC w _ hx163_4)).trans hx163_4)
             (try replace hx163_5 := (HB.out.cell (lC w _ hx163_5)).trans hx163_5)
             have HR163_5 := Aside0.mk hi163_5
             have HC163_5 := Aside0.mk hl163_5
             clear hi163_5 hl163_5
             replace p163 := eq_true p163
             replace q163 := eq_true q163
             have p164 : 0 ≤ (x3_1 : Int) := oD (by first | (with_reducible assumption) | assumption)
             have q164 : x3_1 < (l0_3.length : Int) := oD (by first | (with_reducible assumption) | assumption)
             obtain ⟨ad164, A164_0, c164_0, e164, hx164_0, hl164_0, hi164_0⟩ := at_LT32 HR0_3.out x3_1 p164 q164
             have hw164_0 := hx164_0
             obtain rfl : ad161 = ad164 := (by injection e164)
             (try replace hx164_0 := (HB.out.cell (lC w _ hx164_0)).trans hx164_0)
             have HR164_0 := Aside0.mk hi164_0
             have HC164_0 := Aside0.mk hl164_0
             clear hi164_0 hl164_0
             replace p164 := eq_true p164
             replace q164 := eq_true q164
             have ea_ := Option.some.inj (hx162_0.symm.trans hx164_0)
             injection ea_ with ea_ en_ ec_
             subst ea_
             subst ec_
             clear en_
             refine start_ (n := 24) (S := fun w' => w'.cell? ⟨gb158, 0, none⟩ = some (.string a0_0) ∧ w'.cell? ⟨gb158, 1, none⟩ = some (.int .i64 a0_1) ∧ w'.cell? ⟨gb158, 2, none⟩ = some (.int .i64 a0_2) ∧ w'.cell? ⟨gb158, 3, none⟩ = some (.slice (some ad161) l0_3.length c0_3) ∧ w'.cell? (ad161.add (x3_1).toNat) = some (.slice (some ad163) (rd_LT32 l0_3 x3_1).length c162_0) ∧ w'.cell? (ad163.add ((x4_2).toNat * 6)) = some (.int .i64 ((rd_T32 (rd_LT32 l0_3 x3_1) x4_2).f0)) ∧ w'.cell? ⟨(ad163.add ((x4_2).toNat * 6)).block, (ad163.add ((x4_2).toNat * 6)).off + 1, none⟩ = some (.int .i64 ((rd_T32 (rd_LT32 l0_3 x3_1) x4_2).f1)) ∧ w'.cell? ⟨(ad163.add ((x4_2).toNat * 6)).block, (ad163.add ((x4_2).toNat * 6)).off + 2, none⟩ = some (.int .i64 ((rd_T32 (rd_LT32 l0_3 x3_1) x4_2).f2)) ∧ w'.cell? ⟨(ad163.add ((x4_2).toNat * 6)).block, (ad163.add ((x4_2).toNat * 6)).off + 3, none⟩ = some (.int .i64 ((rd_T32 (rd_LT32 l0_3 x3_1) x4_2).f3)) ∧ w'.cell? ⟨(ad163.add ((x4_2).toNat * 6)).block, (ad163.add ((x4_2).toNat * 6)).off + 4, none⟩ = some (.string ((rd_T32 (rd_LT32 l0_3 x3_1) x4_2).f4)) ∧ w'.cell? ⟨(ad163.add ((x4_2).toNat * 6)).block, (ad163.add ((x4_2).toNat * 6)).off + 5, none⟩ = some (.slice A163_5 ((rd_T32 (rd_LT32 l0_3 x3_1) x4_2).f5).length c163_5) ∧ w'.cell? (ad161.add (x3_1).toNat) = some (.slice (some ad163) (rd_LT32 l0_3 x3_1).length c162_0)) (ds := []) #[false, false, false, false, false, false, false, false, false, false, false, false, false, false, false, false, false, false, false, false, false, false, false, false] (by kernel_rfl) rfl rfl ⟨(bC BK158.out 0).trans rfl, (bC BK158.out 1).trans rfl, (bC BK158.out 2).trans rfl, (bC BK158.out 3).trans rfl, ((HB.out.cell (lC w _ hw162_0)).trans hw162_0), ((HB.out.cell (lC w _ hw163_0)).trans hw163_0), ((HB.out.cell (lC w _ hw163_1)).trans hw163_1), ((HB.out.cell (lC w _ hw163_2)).trans hw163_2), ((HB.out.cell (lC w _ hw163_3)).trans hw163_3), ((HB.out.cell (lC w _ hw163_4)).trans hw163_4), ((HB.out.cell (lC w _ hw163_5)).trans hw163_5), ((HB.out.cell (lC w _ hw164_0)).trans hw164_0)⟩ (fun hHeld => ?_); refine with_tabW cubbyref07_Check.tab11 cubbyref07_Check.bits11 (fun HT_ HW_ => ?_)
             generalize wr.drew = w20 at BK158 HB HR162_0 HR163_5 HR164_0 hx162_0 hx163_0 hx163_1 hx163_2 hx163_3 hx163_4 hx163_5 hx164_0 hHeld ⊢
             refine pure_ (i := 0) (N := some 35) (v := ?_) (a' := ?_) #[true, false, false, false, false, false, false, false, false, false, false, false, false, false, false, false, false, false, false, false, false, false, false, false] rfl rfl (any_of HT_.out (by kernel_rfl)) (fun _ _ _ h => h) (Or.inl ⟨by rfl, ?_⟩) ?_ ?_
             rotate_left
             ·intro w'
              go_simp
              with_reducible rfl
             rotate_left
             ·simp only [Act.put, List.setIfInBounds_toArray, List.set_cons_zero, List.set_cons_succ, i64_w]
              rfl
             refine pure_ (i := 2) (N := some 37) (v := ?_) (a' := ?_) #[true, false, true, false, false, false, false, false, false, false, false, false, false, false, false, false, false, false, false, false, false, false, false, false] rfl rfl (any_of HT_.out (by kernel_rfl)) (fun _ _ _ h => h) (Or.inl ⟨by rfl, ?_⟩) ?_ ?_
             rotate_left
             ·intro w'
              go_simp
              with_reducible rfl
             rotate_left
             ·simp only [Act.put, List.setIfInBounds_toArray, List.set_cons_zero, List.set_cons_succ, i64_w]
              rfl
             refine pure_ (i := 5) (N := some 40) (v := ?_) (a' := ?_) #[true, false, true, false, false, true, false, false, false, false, false, false, false, false, false, false, false, false, false, false, false, false, false, false] rfl rfl (any_of HT_.out (by kernel_rfl)) (fun _ _ _ h => h) (Or.inl ⟨by rfl, ?_⟩) ?_ ?_
             rotate_left
             ·intro w'
              go_simp
              with_reducible rfl
             rotate_left
             ·simp only [Act.put, List.setIfInBounds_toArray, List.set_cons_zero, List.set_cons_succ, i64_w]
              rfl
             refine pure_ (i := 8) (N := some 43) (v := ?_) (a' := ?_) #[true, false, true, false, false, true, false, false, true, false, false, false, false, false, false, false, false, false, false, false, false, false, false, false] rfl rfl (any_of HT_.out (by kernel_rfl)) (fun _ _ _ h => h) (Or.inl ⟨by rfl, ?_⟩) ?_ ?_
             rotate_left
             ·intro w'
              go_simp
              with_reducible rfl
             rotate_left
             ·simp only [Act.put, List.setIfInBounds_toArray, List.set_cons_zero, List.set_cons_succ, i64_w]
              rfl
             refine pure_ (i := 10) (N := some 45) (v := ?_) (a' := ?_) #[true, false, true, false, false, true, false, false, true, false, true, false, false, false, false, false, false, false, false, false, false, false, false, false] rfl rfl (any_of HT_.out (by kernel_rfl)) (fun _ _ _ h => h) (Or.inl ⟨by rfl, ?_⟩) ?_ ?_
             rotate_left
             ·intro w'
              go_simp
              with_reducible rfl
             rotate_left
             ·simp only [Act.put, List.setIfInBounds_toArray, List.set_cons_zero, List.set_cons_succ, i64_w]
              rfl
             refine pure_ (i := 13) (N := some 48) (v := ?_) (a' := ?_) #[true, false, true, false, false, true, false, false, true, false, true, false, false, true, false, false, false, false, false, false, false, false, false, false] rfl rfl (any_of HT_.out (by kernel_rfl)) (fun _ _ _ h => h) (Or.inl ⟨by rfl, ?_⟩) ?_ ?_
             rotate_left
             ·intro w'
              go_simp
              with_reducible rfl
             rotate_left
             ·simp only [Act.put, List.setIfInBounds_toArray, List.set_cons_zero, List.set_cons_succ, i64_w]
              rfl
             refine pure_ (i := 14) (N := some 49) (v := ?_) (a' := ?_) #[true, false, true, false, false, true, false, false, true, false, true, false, false, true, true, false, false, false, false, false, false, false, false, false] rfl rfl (any_of HT_.out (by kernel_rfl)) (fun _ _ _ h => h) (Or.inl ⟨by rfl, ?_⟩) ?_ ?_
             rotate_left
             ·intro w'
              go_simp
              with_reducible rfl
             rotate_left
             ·simp only [Act.put, List.setIfInBounds_toArray, List.set_cons_zero, List.set_cons_succ, i64_w]
              rfl
             refine pure_ (i := 16) (N := some 51) (v := ?_) (a' := ?_) #[true, false, true, false, false, true, false, false, true, false, true, false, false, true, true, false, true, false, false, false, false, false, false, false] rfl rfl (any_of HT_.out (by kernel_rfl)) (fun _ _ _ h => h) (Or.inl ⟨by rfl, ?_⟩) ?_ ?_
             rotate_left
             ·intro w'
              go_simp
              with_reducible rfl
             rotate_left
             ·simp only [Act.put, List.setIfInBounds_toArray, List.set_cons_zero, List.set_cons_succ, i64_w]
              rfl
             refine take_ (i := 1) (N := some 36) (v := ?_) (a' := ?_) #[true, true, true, false, false, true, false, false, true, false, true, false, false, true, true, false, true, false, false, false, false, false, false, false] rfl rfl (take_ofW HT_.out HW_.out (by kernel_rfl)) (fun _ _ _ h => h) (Or.inl ⟨by rfl, ?_⟩) hHeld ?_ ?_
             rotate_left
             ·rintro w' ⟨s0, s1, s2, s3, s4, s5, s6, s7, s8, s9, s10, s11⟩
              go_simp
              with_reducible rfl
             rotate_left
             ·simp only [Act.put, List.setIfInBounds_toArray, List.set_cons_zero, List.set_cons_succ, i64_w]
              rfl
             refine pure_ (i := 3) (N := some 38) (v := ?_) (a' := ?_) #[true, true, true, true, false, true, false, false, true, false, true, false, false, true, true, false, true, false, false, false, false, false, false, false] rfl rfl (any_of HT_.out (by kernel_rfl)) (fun _ _ _ h => h) (Or.inl ⟨by rfl, ?_⟩) ?_ ?_
             rotate_left
             ·intro w'
              go_simp
              with_reducible rfl
             rotate_left
             ·simp only [Act.put, List.setIfInBounds_toArray, List.set_cons_zero, List.set_cons_succ, i64_w]
              rfl
             refine take_ (i := 4) (N := some 39) (v := ?_) (a' := ?_) #[true, true, true, true, true, true, false, false, true, false, true, false, false, true, true, false, true, false, false, false, false, false, false, false] rfl rfl (take_ofW HT_.out HW_.out (by kernel_rfl)) (fun _ _ _ h => h) (Or.inl ⟨by rfl, ?_⟩) hHeld ?_ ?_
             rotate_left
             ·rintro w' ⟨s0, s1, s2, s3, s4, s5, s6, s7, s8, s9, s10, s11⟩
              go_simp
              with_reducible rfl
             rotate_left
             ·simp only [Act.put, List.setIfInBounds_toArray, List.set_cons_zero, List.set_cons_succ, i64_w]
              rfl
             refine pure_ (i := 6) (N := some 41) (v := ?_) (a' := ?_) #[true, true, true, true, true, true, true, false, true, false, true, false, false, true, true, false, true, false, false, false, false, false, false, false] rfl rfl (any_of HT_.out (by kernel_rfl)) (fun _ _ _ h => h) (Or.inl ⟨by rfl, ?_⟩) ?_ ?_
             rotate_left
             ·intro w'
              go_simp
              with_reducible rfl
             rotate_left
             ·simp only [Act.put, List.setIfInBounds_toArray, List.set_cons_zero, List.set_cons_succ, i64_w]
              rfl
             refine take_ (i := 7) (N := some 42) (v := ?_) (a' := ?_) #[true, true, true, true, true, true, true, true, true, false, true, false, false, true, true, false, true, false, false, false, false, false, false, false] rfl rfl (take_ofW HT_.out HW_.out (by kernel_rfl)) (fun _ _ _ h => h) (Or.inl ⟨by rfl, ?_⟩) hHeld ?_ ?_
             rotate_left
             ·rintro w' ⟨s0, s1, s2, s3, s4, s5, s6, s7, s8, s9, s10, s11⟩
              go_simp
              with_reducible rfl
             rotate_left
             ·simp only [Act.put, List.setIfInBounds_toArray, List.set_cons_zero, List.set_cons_succ, i64_w]
              rfl
             refine take_ (i := 9) (N := some 44) (v := ?_) (a' := ?_) #[true, true, true, true, true, true, true, true, true, true, true, false, false, true, true, false, true, false, false, false, false, false, false, false] rfl rfl (take_ofW HT_.out HW_.out (by kernel_rfl)) (fun _ _ _ h => h) (Or.inl ⟨by rfl, ?_⟩) hHeld ?_ ?_
             rotate_left
             ·rintro w' ⟨s0, s1, s2, s3, s4, s5, s6, s7, s8, s9, s10, s11⟩
              go_simp
              with_reducible rfl
             rotate_left
             ·simp only [Act.put, List.setIfInBounds_toArray, List.set_cons_zero, List.set_cons_succ, i64_w]
              rfl
             refine take_ (i := 11) (N := some 46) (v := ?_) (a' := ?_) #[true, true, true, true, true, true, true, true, true, true, true, true, false, true, true, false, true, false, false, false, false, false, false, false] rfl rfl (take_ofW HT_.out HW_.out (by kernel_rfl)) (fun _ _ _ h => h) (Or.inl ⟨by rfl, ?_⟩) hHeld ?_ ?_
             rotate_left
             ·rintro w' ⟨s0, s1, s2, s3, s4, s5, s6, s7, s8, s9, s10, s11⟩
              go_simp
              with_reducible rfl
             rotate_left
             ·simp only [Act.put, List.setIfInBounds_toArray, List.set_cons_zero, List.set_cons_succ, i64_w]
              rfl
             refine pure_ (i := 12) (N := some 47) (v := ?_) (a' := ?_) #[true, true, true, true, true, true, true, true, true, true, true, true, true, true, true, false, true, false, false, false, false, false, false, false] rfl rfl (any_of HT_.out (by kernel_rfl)) (fun _ _ _ h => h) (Or.inl ⟨by rfl, ?_⟩) ?_ ?_
             rotate_left
             ·intro w'
              go_simp
              with_reducible rfl
             rotate_left
             ·simp only [Act.put, List.setIfInBounds_toArray, List.set_cons_zero, List.set_cons_succ, i64_w]
              rfl
             refine take_ (i := 15) (N := some 50) (v := ?_) (a' := ?_) #[true, true, true, true, true, true, true, true, true, true, true, true, true, true, true, true, true, false, false, false, false, false, false, false] rfl rfl (take_ofW HT_.out HW_.out (by kernel_rfl)) (fun _ _ _ h => h) (Or.inl ⟨by rfl, ?_⟩) hHeld ?_ ?_
             rotate_left
             ·rintro w' ⟨s0, s1, s2, s3, s4, s5, s6, s7, s8, s9, s10, s11⟩
              go_simp
              with_reducible rfl
             rotate_left
             ·simp only [Act.put, List.setIfInBounds_toArray, List.set_cons_zero, List.set_cons_succ, i64_w]
              rfl
             refine pure_ (i := 17) (N := some 52) (v := ?_) (a' := ?_) #[true, true, true, true, true, true, true, true, true, true, true, true, true, true, true, true, true, true, false, false, false, false, false, false] rfl rfl (any_of HT_.out (by kernel_rfl)) (fun _ _ _ h => h) (Or.inl ⟨by rfl, ?_⟩) ?_ ?_
             rotate_left
             ·intro w'
              go_simp
              with_reducible rfl
             rotate_left
             ·simp only [Act.put, List.setIfInBounds_toArray, List.set_cons_zero, List.set_cons_succ, i64_w]
              rfl
             refine take_ (i := 18) (N := some 53) (v := ?_) (a' := ?_) #[true, true, true, true, true, true, true, true, true, true, true, true, true, true, true, true, true, true, true, false, false, false, false, false] rfl rfl (take_ofW HT_.out HW_.out (by kernel_rfl)) (fun _ _ _ h => h) (Or.inl ⟨by rfl, ?_⟩) hHeld ?_ ?_
             rotate_left
             ·rintro w' ⟨s0, s1, s2, s3, s4, s5, s6, s7, s8, s9, s10, s11⟩
              go_simp
              with_reducible rfl
             rotate_left
             ·simp only [Act.put, List.setIfInBounds_toArray, List.set_cons_zero, List.set_cons_succ, i64_w]
              rfl
             refine pure_ (i := 19) (N := some 54) (v := ?_) (a' := ?_) #[true, true, true, true, true, true, true, true, true, true, true, true, true, true, true, true, true, true, true, true, false, false, false, false] rfl rfl (any_of HT_.out (by kernel_rfl)) (fun _ _ _ h => h) (Or.inl ⟨by rfl, ?_⟩) ?_ ?_
             rotate_left
             ·intro w'
              go_simp
              with_reducible rfl
             rotate_left
             ·simp only [Act.put, List.setIfInBounds_toArray, List.set_cons_zero, List.set_cons_succ, i64_w]
              rfl
             refine pure_ (i := 20) (N := some 55) (v := ?_) (a' := ?_) #[true, true, true, true, true, true, true, true, true, true, true, true, true, true, true, true, true, true, true, true, true, false, false, false] rfl rfl (any_of HT_.out (by kernel_rfl)) (fun _ _ _ h => h) (Or.inl ⟨by rfl, ?_⟩) ?_ ?_
             rotate_left
             ·intro w'
              go_simp
              with_reducible rfl
             rotate_left
             ·simp only [Act.put, List.setIfInBounds_toArray, List.set_cons_zero, List.set_cons_succ, i64_w]
              rfl
             refine pure_ (i := 21) (N := some 56) (v := ?_) (a' := ?_) #[true, true, true, true, true, true, true, true, true, true, true, true, true, true, true, true, true, true, true, true, true, true, false, false] rfl rfl (any_of HT_.out (by kernel_rfl)) (fun _ _ _ h => h) (Or.inl ⟨by rfl, ?_⟩) ?_ ?_
             rotate_left
             ·intro w'
              go_simp
              with_reducible rfl
             rotate_left
             ·simp only [Act.put, List.setIfInBounds_toArray, List.set_cons_zero, List.set_cons_succ, i64_w]
              rfl
             refine one_ (i := 22) (N := some 57) #[true, true, true, true, true, true, true, true, true, true, true, true, true, true, true, true, true, true, true, true, true, true, true, false] rfl rfl (one_of HT_.out (by kernel_rfl)) (by decide) (fun K hK => ?_)
             refine goes_ Tryd.func31 (by kernel_rfl) rfl #[.agg #[.int .i64 ((rd_T32 (rd_LT32 l0_3 x3_1) x4_2).f0), .int .i64 ((rd_T32 (rd_LT32 l0_3 x3_1) x4_2).f1), .int .i64 ((rd_T32 (rd_LT32 l0_3 x3_1) x4_2).f2), .int .i64 ((rd_T32 (rd_LT32 l0_3 x3_1) x4_2).f3), .string ((rd_T32 (rd_LT32 l0_3 x3_1) x4_2).f4), .slice A163_5 ((rd_T32 (rd_LT32 l0_3 x3_1) x4_2).f5).length c163_5], .int .i64 a0_2, .int .i64 (l0_3.length : Int), .bool (x4_2 == (wrap64 (((rd_LT32 l0_3 x3_1).length : Int) - 1)))] (by rfl) rfl rfl (by (try simp only [List.map_toArray, List.map_cons, List.map_nil]); first | done | rfl | (simp only [List.length_drop, List.length_take]; rfl)) ?_
             with_reducible refine (cubbyref07_One.calls k2 ((rd_T32 (rd_LT32 l0_3 x3_1) x4_2).f0) ((rd_T32 (rd_LT32 l0_3 x3_1) x4_2).f1) ((rd_T32 (rd_LT32 l0_3 x3_1) x4_2).f2) ((rd_T32 (rd_LT32 l0_3 x3_1) x4_2).f3) ((rd_T32 (rd_LT32 l0_3 x3_1) x4_2).f4) _ _ ((rd_T32 (rd_LT32 l0_3 x3_1) x4_2).f5) a0_2 (l0_3.length : Int) (x4_2 == (wrap64 (((rd_LT32 l0_3 x3_1).length : Int) - 1))) t165 _ ?side1 ?side2 A14.out).mono ?_
             (case side1 => repeat (first | exact (Kd.C_below HR163_5.out HB.out) | (with_reducible refine Kd.C_alloc ?_ _) | (with_reducible refine Kd.C_drewN ?_ _) | (with_reducible refine Kd.C_drew ?_)))
             (case side2 => exact HC163_5.out)
             rintro e w21 ⟨rfl, hb⟩
             refine ⟨_, rfl, ?_⟩
             have n0_ := Aside0.mk (blk_below (g := gb158) (o := .cells #[.string a0_0, .int .i64 a0_1, .int .i64 a0_2, .slice (some ad161) l0_3.length c0_3] 24 (0, 0)) (by (with_reducible repeat (first | refine kN ?_ _ | refine blk_drew ?_ | refine kA ?_ _)); exact BK158.out) hb)
             have n1_ := Aside0.mk (below_step (by repeat (first | (with_reducible first | exact HB.out | apply bA | apply bN | apply bD | refine bS ?_ GE158.out) | exact HB.out)) hb)
             clear BK158
             clear HB
             have BK158 := n0_
             have HB := n1_
             clear n0_ n1_
             (try clear hb)
             (try clear hb2)
             (try clear hk)
             (try clear hi)
             refine hK.out _ _ ⟨(bC BK158.out 0).trans rfl, (bC BK158.out 1).trans rfl, (bC BK158.out 2).trans rfl, (bC BK158.out 3).trans rfl, ((HB.out.cell (lC w _ hw162_0)).trans hw162_0), ((HB.out.cell (lC w _ hw163_0)).trans hw163_0), ((HB.out.cell (lC w _ hw163_1)).trans hw163_1), ((HB.out.cell (lC w _ hw163_2)).trans hw163_2), ((HB.out.cell (lC w _ hw163_3)).trans hw163_3), ((HB.out.cell (lC w _ hw163_4)).trans hw163_4), ((HB.out.cell (lC w _ hw163_5)).trans hw163_5), ((HB.out.cell (lC w _ hw164_0)).trans hw164_0)⟩ (fun hHeld => ?_)
             clear hK K
             refine norm_ (a' := ?_) ?_ ?_
             rotate_left
             ·show Act.put _ (some 57) _ = _
              simp only [Act.put, List.setIfInBounds_toArray, List.set_cons_zero, List.set_cons_succ, i64_w]
              rfl
             refine pure_ (i := 23) (N := some 5) (v := ?_) (a' := ?_) #[true, true, true, true, true, true, true, true, true, true, true, true, true, true, true, true, true, true, true, true, true, true, true, true] rfl rfl (any_of HT_.out (by kernel_rfl)) (fun _ _ _ h => h) (Or.inl ⟨by rfl, ?_⟩) ?_ ?_
             rotate_left
             ·intro w'
              go_simp
              with_reducible rfl
             rotate_left
             ·simp only [Act.put, List.setIfInBounds_toArray, List.set_cons_zero, List.set_cons_succ, i64_w]
              rfl
             refine done_ (done_of HT_.out (by kernel_rfl)) ?_
             try go_wp2
             go_ret
             exact ⟨by first | rfl | (simp [errW_none, errW_some] <;> rfl) | (simp [*, errW_none, errW_some] <;> rfl), by repeat (first | (with_reducible first | exact HB.out | apply bA | apply bN | apply bD | refine bS ?_ GE158.out) | exact HB.out)⟩
           ·rw [if_neg c13] at H
            exact absurd H (by simp)
          ·rw [if_neg c12] at H
           have c12b0 : decide (x4_2 < ((rd_LT32 l0_3 x3_1).length : Int)) = false := decide_eq_false c12
           clear c12
           have H' := Aside0.mk H
           clear H
           have hcz22_0 : wr.cell? ⟨gb158, 0, none⟩ = some (.string a0_0) := (bC BK158.out 0).trans rfl
           have hcz22_1 : wr.cell? ⟨gb158, 1, none⟩ = some (.int .i64 a0_1) := (bC BK158.out 1).trans rfl
           have hcz22_2 : wr.cell? ⟨gb158, 2, none⟩ = some (.int .i64 a0_2) := (bC BK158.out 2).trans rfl
           have hcz22_3 : wr.cell? ⟨gb158, 3, none⟩ = some (.slice A0_3 l0_3.length c0_3) := (bC BK158.out 3).trans rfl
           have hfz22_0 := bZ BK158.out 0
           have hfz22_1 := bZ BK158.out 1
           have hfz22_2 := bZ BK158.out 2
           have hfz22_3 := bZ BK158.out 3
           have p161 : 0 ≤ (x3_1 : Int) := oD (by first | (with_reducible assumption) | assumption)
           have q161 : x3_1 < (l0_3.length : Int) := oD (by first | (with_reducible assumption) | assumption)
           obtain ⟨ad161, A161_0, c161_0, e161, hx161_0, hl161_0, hi161_0⟩ := at_LT32 HR0_3.out x3_1 p161 q161
           cases e161
           (try replace hx161_0 := (HB.out.cell (lC w _ hx161_0)).trans hx161_0)
           have HR161_0 := Aside0.mk hi161_0
           have HC161_0 := Aside0.mk hl161_0
           clear hi161_0 hl161_0
           replace p161 := eq_true p161
           replace q161 := eq_true q161
           go_wp2
           go_roundg k2
           case measure => have := HK1.out; have := HK2.out; omega
           case rel => exact ⟨(wrap64 (x3_1 + 1)), (by first | rfl | (simp; done) | (simp [*]; done)), H', ⟨by have := HK1.out; have := HK2.out; omega⟩, ⟨by (with_reducible repeat (first | refine kN ?_ _ | refine blk_drew ?_ | refine kA ?_ _)); exact BK158.out⟩, ⟨by repeat (first | (with_reducible first | exact HB.out | apply bA | apply bN | apply bD | refine bS ?_ GE158.out) | exact HB.out)⟩⟩
         ·rw [if_neg c11] at H
          exact absurd H (by simp)
        ·rw [if_neg c10] at H
         exact absurd H (by simp)
     ·rw [if_neg c8] at H
      have c8b0 : decide (x3_1 < (l0_3.length : Int)) = false := decide_eq_false c8
      clear c8
      obtain rfl := Option.some.inj H
      have hcz23_0 : wr.cell? ⟨gb158, 0, none⟩ = some (.string a0_0) := (bC BK158.out 0).trans rfl
      have hcz23_1 : wr.cell? ⟨gb158, 1, none⟩ = some (.int .i64 a0_1) := (bC BK158.out 1).trans rfl
      have hcz23_2 : wr.cell? ⟨gb158, 2, none⟩ = some (.int .i64 a0_2) := (bC BK158.out 2).trans rfl
      have hcz23_3 : wr.cell? ⟨gb158, 3, none⟩ = some (.slice A0_3 l0_3.length c0_3) := (bC BK158.out 3).trans rfl
      have hfz23_0 := bZ BK158.out 0
      have hfz23_1 := bZ BK158.out 1
      have hfz23_2 := bZ BK158.out 2
      have hfz23_3 := bZ BK158.out 3
      go_wp2
      go_ret
      exact ⟨by first | rfl | (simp [errW_none, errW_some] <;> rfl) | (simp [*, errW_none, errW_some] <;> rfl), by repeat (first | (with_reducible first | exact HB.out | apply bA | apply bN | apply bD | refine bS ?_ GE158.out) | exact HB.out)⟩
  ·replace c5 := Bool.eq_false_iff.mpr c5
   subst c5
   have H1 : (some 71) = some r := by rw [if_neg (show ¬ (false = true) by decide)] at H; exact H
   clear H
   have H := H1
   clear H1
   obtain rfl := Option.some.inj H
   go_enter Tryd.func11, Tryd.ntmps11
   go_wp2_with (first | ((with_reducible refine gate_dst (N := 1) rfl ?_); refine box_event ?hg (N := 1) ?hd (cs := #[.string a0_0, .int .i64 a0_1, .int .i64 a0_2, .slice A0_3 l0_3.length c0_3]) (t := 24) ?hr ?_; (case hd => rfl); (case hg => rfl); (case hr => first | (go_simp; done) | (go_simp; rfl)); intro gb158 hg w24 hbox hb; have n0_ := Aside0.mk (below_step (by repeat (first | (with_reducible first | exact HB.out | apply bA | apply bN | apply bD) | exact HB.out)) hb); have n1_ := Aside0.mk (hbox); have n2_ := Aside0.mk ((by rw [hg]; exact (below_size (by repeat (first | (with_reducible first | exact HB.out | apply bA | apply bN | apply bD) | exact HB.out))) : w.heap.size ≤ gb158)); have n3_ := Aside0.mk ((by rw [hg]; exact (below_size (by repeat (first | (with_reducible first | exact HB.out | apply bA | apply bN | apply bD) | exact HB.out))) : w.heap.size ≤ gb158)); clear HB; have HB := n0_; have BK158 := n1_; have GW158 := n2_; have GE158 := n3_; clear n0_ n1_ n2_ n3_; clear hb hbox hg; have hcz25_0 : w24.cell? ⟨gb158, 0, none⟩ = some (.string a0_0) := (bC BK158.out 0).trans rfl; have hcz25_1 : w24.cell? ⟨gb158, 1, none⟩ = some (.int .i64 a0_1) := (bC BK158.out 1).trans rfl; have hcz25_2 : w24.cell? ⟨gb158, 2, none⟩ = some (.int .i64 a0_2) := (bC BK158.out 2).trans rfl; have hcz25_3 : w24.cell? ⟨gb158, 3, none⟩ = some (.slice A0_3 l0_3.length c0_3) := (bC BK158.out 3).trans rfl; have hfz25_0 := bZ BK158.out 0; have hfz25_1 := bZ BK158.out 1; have hfz25_2 := bZ BK158.out 2; have hfz25_3 := bZ BK158.out 3) | ((with_reducible refine gate_callee (f := 29) rfl ?_); refine goesL_ (some 8) rfl rfl Tryd.func29 (by kernel_rfl) rfl #[.string a0_0] rfl (by (try simp only [List.map_toArray, List.map_cons, List.map_nil]); first | done | rfl | (simp only [List.length_drop, List.length_take]; rfl)) ?_; (with_reducible refine (cubbyref07_Name.calls k a0_0 true _ A2.out).mono ?_); rintro e w' ⟨rfl, ⟨nd, rfl⟩⟩; refine ⟨_, rfl, ?_⟩) | ((with_reducible refine gate_callee (f := 30) rfl ?_); refine goesL_ (some 16) rfl rfl Tryd.func30 (by kernel_rfl) rfl #[.int .i64 a0_1, .int .i64 a0_2, .slice A0_3 l0_3.length c0_3] rfl (by (try simp only [List.map_toArray, List.map_cons, List.map_nil]); first | done | rfl | (simp only [List.length_drop, List.length_take]; rfl)) ?_; (with_reducible refine (cubbyref07_Shape.calls k a0_1 a0_2 _ _ l0_3 false _ ?side1 ?side2 A4.out).mono ?_); (case side1 => repeat (first | exact (Kd.C_below HR0_3.out (by repeat (first | (with_reducible first | exact HB.out | apply bA | apply bN | apply bD | refine bS ?_ GE158.out) | exact HB.out))) | (with_reducible refine Kd.C_alloc ?_ _) | (with_reducible refine Kd.C_drewN ?_ _) | (with_reducible refine Kd.C_drew ?_))); (case side2 => exact HC0_3.out); rintro e w' ⟨rfl, ⟨nd, rfl⟩⟩; refine ⟨_, rfl, ?_⟩))
   go_ret
   exact ⟨by first | rfl | (simp [errW_none, errW_some] <;> rfl) | (simp [*, errW_none, errW_some] <;> rfl), by repeat (first | (with_reducible first | exact HB.out | apply bA | apply bN | apply bD | refine bS ?_ GE158.out) | exact HB.out)⟩
 ·replace c3 := Bool.eq_false_iff.mpr c3
  subst c3
  have H1 : (some 70) = some r := by rw [if_neg (show ¬ (false = true) by decide)] at H; exact H
  clear H
  have H := H1
  clear H1
  obtain rfl := Option.some.inj H
  go_enter Tryd.func11, Tryd.ntmps11
  go_wp2_with (first | ((with_reducible refine gate_dst (N := 1) rfl ?_); refine box_event ?hg (N := 1) ?hd (cs := #[.string a0_0, .int .i64 a0_1, .int .i64 a0_2, .slice A0_3 l0_3.length c0_3]) (t := 24) ?hr ?_; (case hd => rfl); (case hg => rfl); (case hr => first | (go_simp; done) | (go_simp; rfl)); intro gb158 hg w26 hbox hb; have n0_ := Aside0.mk (below_step (by repeat (first | (with_reducible first | exact HB.out | apply bA | apply bN | apply bD) | exact HB.out)) hb); have n1_ := Aside0.mk (hbox); have n2_ := Aside0.mk ((by rw [hg]; exact (below_size (by repeat (first | (with_reducible first | exact HB.out | apply bA | apply bN | apply bD) | exact HB.out))) : w.heap.size ≤ gb158)); have n3_ := Aside0.mk ((by rw [hg]; exact (below_size (by repeat (first | (with_reducible first | exact HB.out | apply bA | apply bN | apply bD) | exact HB.out))) : w.heap.size ≤ gb158)); clear HB; have HB := n0_; have BK158 := n1_; have GW158 := n2_; have GE158 := n3_; clear n0_ n1_ n2_ n3_; clear hb hbox hg; have hcz27_0 : w26.cell? ⟨gb158, 0, none⟩ = some (.string a0_0) := (bC BK158.out 0).trans rfl; have hcz27_1 : w26.cell? ⟨gb158, 1, none⟩ = some (.int .i64 a0_1) := (bC BK158.out 1).trans rfl; have hcz27_2 : w26.cell? ⟨gb158, 2, none⟩ = some (.int .i64 a0_2) := (bC BK158.out 2).trans rfl; have hcz27_3 : w26.cell? ⟨gb158, 3, none⟩ = some (.slice A0_3 l0_3.length c0_3) := (bC BK158.out 3).trans rfl; have hfz27_0 := bZ BK158.out 0; have hfz27_1 := bZ BK158.out 1; have hfz27_2 := bZ BK158.out 2; have hfz27_3 := bZ BK158.out 3) | ((with_reducible refine gate_callee (f := 29) rfl ?_); refine goesL_ (some 8) rfl rfl Tryd.func29 (by kernel_rfl) rfl #[.string a0_0] rfl (by (try simp only [List.map_toArray, List.map_cons, List.map_nil]); first | done | rfl | (simp only [List.length_drop, List.length_take]; rfl)) ?_; (with_reducible refine (cubbyref07_Name.calls k a0_0 false _ A2.out).mono ?_); rintro e w' ⟨rfl, ⟨nd, rfl⟩⟩; refine ⟨_, rfl, ?_⟩))
  go_ret
  exact ⟨by first | rfl | (simp [errW_none, errW_some] <;> rfl) | (simp [*, errW_none, errW_some] <;> rfl), by repeat (first | (with_reducible first | exact HB.out | apply bA | apply bN | apply bD | refine bS ?_ GE158.out) | exact HB.out)⟩
end Go.Proofs.YtoilapjkgligfaaDoor.P
namespace Go.Proofs.YtoilapjkgligfaaDoor.P
open Go.RowKit Go.Proofs.YtoilapjkgligfaaDoorW.PrintWords Go.Proofs.YtoilapjkgligfaaDoorW.PrintLast Go.Proofs.YtoilapjkgligfaaDoorW.PrintMore
attribute [local go_sem] max2_int min2_int max_two min_two max_three min_three max_four min_four 
set_option linter.unusedVariables false
set_option linter.unusedSimpArgs false
def cubbylaw11_heavy.f (k : Nat) (a0_0 : ByteArray) (a0_1 : Int) (a0_2 : Int) (l0_3 : List (List (S32))) : Option (Bool) := if (a0_0.size : Int) > 100 then (some true) else (if (l0_3.length : Int) > 12 then (some true) else ((cubbyref07_Check.f k a0_0 a0_1 a0_2 l0_3).bind fun t167 => (if t167 = 0 then (some (decide (a0_2 > 40))) else (some true))))
set_option maxHeartbeats 8000000 in
set_option maxRecDepth 100000 in
theorem cubbylaw11_heavy.calls (k : Nat) (a0_0 : ByteArray) (a0_1 : Int) (a0_2 : Int) (A0_3 : Option Addr) (c0_3 : Nat) (l0_3 : List (List (S32))) (r : Bool) (w : World) (hr0_3 : Kd.C (Kd.slice 32 k32) w A0_3 l0_3.length l0_3) (hc0_3 : l0_3.length ≤ c0_3) (h : cubbylaw11_heavy.f k a0_0 a0_1 a0_2 l0_3 = some r) :
  Calls Tryd.prog 7 #[.agg #[.string a0_0, .int .i64 a0_1, .int .i64 a0_2, .slice A0_3 l0_3.length c0_3]] w fun e w' => e = .returned (.bool r) ∧ Below w.heap.size w w' := by
 have hu24 := Tryd.underlying24
 have HR0_3 := Aside0.mk hr0_3
 have HC0_3 := Aside0.mk hc0_3
 clear hr0_3 hc0_3
 have HB := Aside0.mk (Below.refl w.heap.size w)
 have H : (if (a0_0.size : Int) > 100 then (some true) else (if (l0_3.length : Int) > 12 then (some true) else ((cubbyref07_Check.f k a0_0 a0_1 a0_2 l0_3).bind fun t167 => (if t167 = 0 then (some (decide (a0_2 > 40))) else (some true))))) = some r := h
 clear h
 by_cases c2 : (a0_0.size : Int) > 100
 ·rw [if_pos c2] at H
  have c2b0 : decide (100 < (a0_0.size : Int)) = true := decide_eq_true c2
  have c2b1 : decide (100 < a0_0.size) = true := decide_eq_true (by omega)
  clear c2
  obtain rfl := Option.some.inj H
  go_enter Tryd.func7, Tryd.ntmps7
  go_wp2_with (first | ((with_reducible refine gate_dst (N := 1) rfl ?_); (try (refine gate_guard (by rfl) ?_; dsimp only)); refine box_event ?hg (N := 1) ?hd (cs := #[.string a0_0, .int .i64 a0_1, .int .i64 a0_2, .slice A0_3 l0_3.length c0_3]) (t := 24) ?hr ?_; (case hd => rfl); (case hg => rfl); (case hr => first | (go_simp; done) | (go_simp; rfl)); intro gb166 hg w3 hbox hb; have n0_ := Aside0.mk (below_step (by repeat (first | (with_reducible first | exact HB.out | apply bA | apply bN | apply bD) | exact HB.out)) hb); have n1_ := Aside0.mk (hbox); have n2_ := Aside0.mk ((by rw [hg]; exact (below_size (by repeat (first | (with_reducible first | exact HB.out | apply bA | apply bN | apply bD) | exact HB.out))) : w.heap.size ≤ gb166)); have n3_ := Aside0.mk ((by rw [hg]; exact (below_size (by repeat (first | (with_reducible first | exact HB.out | apply bA | apply bN | apply bD) | exact HB.out))) : w.heap.size ≤ gb166)); clear HB; have HB := n0_; have BK166 := n1_; have GW166 := n2_; have GE166 := n3_; clear n0_ n1_ n2_ n3_; clear hb hbox hg; have hcz4_0 : w3.cell? ⟨gb166, 0, none⟩ = some (.string a0_0) := (bC BK166.out 0).trans rfl; have hcz4_1 : w3.cell? ⟨gb166, 1, none⟩ = some (.int .i64 a0_1) := (bC BK166.out 1).trans rfl; have hcz4_2 : w3.cell? ⟨gb166, 2, none⟩ = some (.int .i64 a0_2) := (bC BK166.out 2).trans rfl; have hcz4_3 : w3.cell? ⟨gb166, 3, none⟩ = some (.slice A0_3 l0_3.length c0_3) := (bC BK166.out 3).trans rfl; have hfz4_0 := bZ BK166.out 0; have hfz4_1 := bZ BK166.out 1; have hfz4_2 := bZ BK166.out 2; have hfz4_3 := bZ BK166.out 3))
  go_ret
  exact ⟨by first | rfl | (simp [errW_none, errW_some] <;> rfl) | (simp [*, errW_none, errW_some] <;> rfl), by repeat (first | (with_reducible first | exact HB.out | apply bA | apply bN | apply bD | refine bS ?_ GE166.out) | exact HB.out)⟩
 ·rw [if_neg c2] at H
  have c2b0 : decide (100 < (a0_0.size : Int)) = false := decide_eq_false c2
  have c2b1 : decide (100 < a0_0.size) = false := decide_eq_false (by omega)
  clear c2
  by_cases c5 : (l0_3.length : Int) > 12
  ·rw [if_pos c5] at H
   have c5b0 : decide (12 < (l0_3.length : Int)) = true := decide_eq_true c5
   have c5b1 : decide (12 < l0_3.length) = true := decide_eq_true (by omega)
   clear c5
   obtain rfl := Option.some.inj H
   go_enter Tryd.func7, Tryd.ntmps7
   go_wp2_with (first | ((with_reducible refine gate_dst (N := 1) rfl ?_); (try (refine gate_guard (by rfl) ?_; dsimp only)); refine box_event ?hg (N := 1) ?hd (cs := #[.string a0_0, .int .i64 a0_1, .int .i64 a0_2, .slice A0_3 l0_3.length c0_3]) (t := 24) ?hr ?_; (case hd => rfl); (case hg => rfl); (case hr => first | (go_simp; done) | (go_simp; rfl)); intro gb166 hg w6 hbox hb; have n0_ := Aside0.mk (below_step (by repeat (first | (with_reducible first | exact HB.out | apply bA | apply bN | apply bD) | exact HB.out)) hb); have n1_ := Aside0.mk (hbox); have n2_ := Aside0.mk ((by rw [hg]; exact (below_size (by repeat (first | (with_reducible first | exact HB.out | apply bA | apply bN | apply bD) | exact HB.out))) : w.heap.size ≤ gb166)); have n3_ := Aside0.mk ((by rw [hg]; exact (below_size (by repeat (first | (with_reducible first | exact HB.out | apply bA | apply bN | apply bD) | exact HB.out))) : w.heap.size ≤ gb166)); clear HB; have HB := n0_; have BK166 := n1_; have GW166 := n2_; have GE166 := n3_; clear n0_ n1_ n2_ n3_; clear hb hbox hg; have hcz7_0 : w6.cell? ⟨gb166, 0, none⟩ = some (.string a0_0) := (bC BK166.out 0).trans rfl; have hcz7_1 : w6.cell? ⟨gb166, 1, none⟩ = some (.int .i64 a0_1) := (bC BK166.out 1).trans rfl; have hcz7_2 : w6.cell? ⟨gb166, 2, none⟩ = some (.int .i64 a0_2) := (bC BK166.out 2).trans rfl; have hcz7_3 : w6.cell? ⟨gb166, 3, none⟩ = some (.slice A0_3 l0_3.length c0_3) := (bC BK166.out 3).trans rfl; have hfz7_0 := bZ BK166.out 0; have hfz7_1 := bZ BK166.out 1; have hfz7_2 := bZ BK166.out 2; have hfz7_3 := bZ BK166.out 3))
   go_ret
   exact ⟨by first | rfl | (simp [errW_none, errW_some] <;> rfl) | (simp [*, errW_none, errW_some] <;> rfl), by repeat (first | (with_reducible first | exact HB.out | apply bA | apply bN | apply bD | refine bS ?_ GE166.out) | exact HB.out)⟩
  ·rw [if_neg c5] at H
   have c5b0 : decide (12 < (l0_3.length : Int)) = false := decide_eq_false c5
   have c5b1 : decide (12 < l0_3.length) = false := decide_eq_false (by omega)
   clear c5
   replace H := Option.bind_eq_some_iff.mp H
   obtain ⟨t167, A80, H⟩ := H
   replace H : (if t167 = 0 then (some (decide (a0_2 > 40))) else (some true)) = some r := H
   have A8 := Aside0.mk A80
   clear A80
   by_cases c9 : t167 = 0
   ·rw [if_pos c9] at H
    have c9b0 : (t167 == 0) = true := beq_iff_eq.mpr c9
    have c9b1 : (t167 != 0) = false := bne_eq_false_iff_eq.mpr c9
    clear c9
    obtain rfl := Option.some.inj H
    go_enter Tryd.func7, Tryd.ntmps7
    go_wp2_with (first | ((with_reducible refine gate_dst (N := 1) rfl ?_); (try (refine gate_guard (by rfl) ?_; dsimp only)); refine box_event ?hg (N := 1) ?hd (cs := #[.string a0_0, .int .i64 a0_1, .int .i64 a0_2, .slice A0_3 l0_3.length c0_3]) (t := 24) ?hr ?_; (case hd => rfl); (case hg => rfl); (case hr => first | (go_simp; done) | (go_simp; rfl)); intro gb166 hg w10 hbox hb; have n0_ := Aside0.mk (below_step (by repeat (first | (with_reducible first | exact HB.out | apply bA | apply bN | apply bD) | exact HB.out)) hb); have n1_ := Aside0.mk (hbox); have n2_ := Aside0.mk ((by rw [hg]; exact (below_size (by repeat (first | (with_reducible first | exact HB.out | apply bA | apply bN | apply bD) | exact HB.out))) : w.heap.size ≤ gb166)); have n3_ := Aside0.mk ((by rw [hg]; exact (below_size (by repeat (first | (with_reducible first | exact HB.out | apply bA | apply bN | apply bD) | exact HB.out))) : w.heap.size ≤ gb166)); clear HB; have HB := n0_; have BK166 := n1_; have GW166 := n2_; have GE166 := n3_; clear n0_ n1_ n2_ n3_; clear hb hbox hg; have hcz11_0 : w10.cell? ⟨gb166, 0, none⟩ = some (.string a0_0) := (bC BK166.out 0).trans rfl; have hcz11_1 : w10.cell? ⟨gb166, 1, none⟩ = some (.int .i64 a0_1) := (bC BK166.out 1).trans rfl; have hcz11_2 : w10.cell? ⟨gb166, 2, none⟩ = some (.int .i64 a0_2) := (bC BK166.out 2).trans rfl; have hcz11_3 : w10.cell? ⟨gb166, 3, none⟩ = some (.slice A0_3 l0_3.length c0_3) := (bC BK166.out 3).trans rfl; have hfz11_0 := bZ BK166.out 0; have hfz11_1 := bZ BK166.out 1; have hfz11_2 := bZ BK166.out 2; have hfz11_3 := bZ BK166.out 3) | (go_at_call 11; (with_reducible refine (cubbyref07_Check.calls k a0_0 a0_1 a0_2 _ _ l0_3 t167 _ ?side1 ?side2 A8.out).mono ?_); (case side1 => repeat (first | exact (Kd.C_below HR0_3.out HB.out) | (with_reducible refine Kd.C_alloc ?_ _) | (with_reducible refine Kd.C_drewN ?_ _) | (with_reducible refine Kd.C_drew ?_))); (case side2 => exact HC0_3.out); rintro e w12 ⟨rfl, hb⟩; have n0_ := Aside0.mk (blk_below (g := gb166) (o := .cells #[.string a0_0, .int .i64 a0_1, .int .i64 a0_2, .slice A0_3 l0_3.length c0_3] 24 (0, 0)) (by (with_reducible repeat (first | refine kN ?_ _ | refine blk_drew ?_ | refine kA ?_ _)); exact BK166.out) hb); have n1_ := Aside0.mk (below_step (by repeat (first | (with_reducible first | exact HB.out | apply bA | apply bN | apply bD | refine bS ?_ GE166.out) | exact HB.out)) hb); clear BK166; clear HB; have BK166 := n0_; have HB := n1_; clear n0_ n1_; (try clear hb); (try clear hb2); (try clear hk); (try clear hi); (try clear A8); have hcz13_0 : w12.cell? ⟨gb166, 0, none⟩ = some (.string a0_0) := (bC BK166.out 0).trans rfl; have hcz13_1 : w12.cell? ⟨gb166, 1, none⟩ = some (.int .i64 a0_1) := (bC BK166.out 1).trans rfl; have hcz13_2 : w12.cell? ⟨gb166, 2, none⟩ = some (.int .i64 a0_2) := (bC BK166.out 2).trans rfl; have hcz13_3 : w12.cell? ⟨gb166, 3, none⟩ = some (.slice A0_3 l0_3.length c0_3) := (bC BK166.out 3).trans rfl; have hfz13_0 := bZ BK166.out 0; have hfz13_1 := bZ BK166.out 1; have hfz13_2 := bZ BK166.out 2; have hfz13_3 := bZ BK166.out 3))
    go_ret
    exact ⟨by first | rfl | (simp [errW_none, errW_some] <;> rfl) | (simp [*, errW_none, errW_some] <;> rfl), by repeat (first | (with_reducible first | exact HB.out | apply bA | apply bN | apply bD | refine bS ?_ GE166.out) | exact HB.out)⟩
   ·rw [if_neg c9] at H
    have c9b0 : (t167 == 0) = false := beq_eq_false_iff_ne.mpr c9
    have c9b1 : (t167 != 0) = true := bne_iff_ne.mpr c9
    obtain rfl := Option.some.inj H
    go_enter Tryd.func7, Tryd.ntmps7
    go_wp2_with (first | ((with_reducible refine gate_dst (N := 1) rfl ?_); (try (refine gate_guard (by rfl) ?_; dsimp only)); refine box_event ?hg (N := 1) ?hd (cs := #[.string a0_0, .int .i64 a0_1, .int .i64 a0_2, .slice A0_3 l0_3.length c0_3]) (t := 24) ?hr ?_; (case hd => rfl); (case hg => rfl); (case hr => first | (go_simp; done) | (go_simp; rfl)); intro gb166 hg w14 hbox hb; have n0_ := Aside0.mk (below_step (by repeat (first | (with_reducible first | exact HB.out | apply bA | apply bN | apply bD) | exact HB.out)) hb); have n1_ := Aside0.mk (hbox); have n2_ := Aside0.mk ((by rw [hg]; exact (below_size (by repeat (first | (with_reducible first | exact HB.out | apply bA | apply bN | apply bD) | exact HB.out))) : w.heap.size ≤ gb166)); have n3_ := Aside0.mk ((by rw [hg]; exact (below_size (by repeat (first | (with_reducible first | exact HB.out | apply bA | apply bN | apply bD) | exact HB.out))) : w.heap.size ≤ gb166)); clear HB; have HB := n0_; have BK166 := n1_; have GW166 := n2_; have GE166 := n3_; clear n0_ n1_ n2_ n3_; clear hb hbox hg; have hcz15_0 : w14.cell? ⟨gb166, 0, none⟩ = some (.string a0_0) := (bC BK166.out 0).trans rfl; have hcz15_1 : w14.cell? ⟨gb166, 1, none⟩ = some (.int .i64 a0_1) := (bC BK166.out 1).trans rfl; have hcz15_2 : w14.cell? ⟨gb166, 2, none⟩ = some (.int .i64 a0_2) := (bC BK166.out 2).trans rfl; have hcz15_3 : w14.cell? ⟨gb166, 3, none⟩ = some (.slice A0_3 l0_3.length c0_3) := (bC BK166.out 3).trans rfl; have hfz15_0 := bZ BK166.out 0; have hfz15_1 := bZ BK166.out 1; have hfz15_2 := bZ BK166.out 2; have hfz15_3 := bZ BK166.out 3) | (go_at_call 11; (with_reducible refine (cubbyref07_Check.calls k a0_0 a0_1 a0_2 _ _ l0_3 t167 _ ?side1 ?side2 A8.out).mono ?_); (case side1 => repeat (first | exact (Kd.C_below HR0_3.out HB.out) | (with_reducible refine Kd.C_alloc ?_ _) | (with_reducible refine Kd.C_drewN ?_ _) | (with_reducible refine Kd.C_drew ?_))); (case side2 => exact HC0_3.out); rintro e w16 ⟨rfl, hb⟩; have n0_ := Aside0.mk (blk_below (g := gb166) (o := .cells #[.string a0_0, .int .i64 a0_1, .int .i64 a0_2, .slice A0_3 l0_3.length c0_3] 24 (0, 0)) (by (with_reducible repeat (first | refine kN ?_ _ | refine blk_drew ?_ | refine kA ?_ _)); exact BK166.out) hb); have n1_ := Aside0.mk (below_step (by repeat (first | (with_reducible first | exact HB.out | apply bA | apply bN | apply bD | refine bS ?_ GE166.out) | exact HB.out)) hb); clear BK166; clear HB; have BK166 := n0_; have HB := n1_; clear n0_ n1_; (try clear hb); (try clear hb2); (try clear hk); (try clear hi); (try clear A8)))
    go_ret
    exact ⟨by first | rfl | (simp [errW_none, errW_some] <;> rfl) | (simp [*, errW_none, errW_some] <;> rfl), by repeat (first | (with_reducible first | exact HB.out | apply bA | apply bN | apply bD | refine bS ?_ GE166.out) | exact HB.out)⟩
end Go.Proofs.YtoilapjkgligfaaDoor.P
namespace Go.Proofs.YtoilapjkgligfaaDoor.P
open Go.RowKit Go.Proofs.YtoilapjkgligfaaDoorW.PrintWords Go.Proofs.YtoilapjkgligfaaDoorW.PrintLast Go.Proofs.YtoilapjkgligfaaDoorW.PrintMore
attribute [local go_sem] max2_int min2_int max_two min_two max_three min_three max_four min_four 
set_option linter.unusedVariables false
set_option linter.unusedSimpArgs false
mutual
def cubbylaw11_calls.l0 : Nat → Int → ByteArray → Int → Int → List (List (S32)) → Option (Bool)
 | 0, _, _, _, _, _ => none
 | k + 1, x3, y0, y1, y2, y3 => if x3 < (y3.length : Int) then (cubbylaw11_calls.l1 k x3 0 y0 y1 y2 y3) else (some false)
def cubbylaw11_calls.l1 : Nat → Int → Int → ByteArray → Int → Int → List (List (S32)) → Option (Bool)
 | 0, _, _, _, _, _, _ => none
 | k + 1, x3, x4, y0, y1, y2, y3 => if 0 ≤ x3 then (if x3 < (y3.length : Int) then (if x4 < ((rd_LT32 y3 x3).length : Int) then (if 0 ≤ x4 then (if ((rd_T32 (rd_LT32 y3 x3) x4).f0) = 11 then (some true) else (cubbylaw11_calls.l1 k x3 (wrap64 (x4 + 1)) y0 y1 y2 y3)) else (none)) else (cubbylaw11_calls.l0 k (wrap64 (x3 + 1)) y0 y1 y2 y3)) else (none)) else (none)
end
def cubbylaw11_calls.f (k : Nat) (a0_0 : ByteArray) (a0_1 : Int) (a0_2 : Int) (l0_3 : List (List (S32))) : Option (Bool) := cubbylaw11_calls.l0 k 0 a0_0 a0_1 a0_2 l0_3
set_option maxHeartbeats 8000000 in
set_option maxRecDepth 100000 in
theorem cubbylaw11_calls.calls (k : Nat) (a0_0 : ByteArray) (a0_1 : Int) (a0_2 : Int) (A0_3 : Option Addr) (c0_3 : Nat) (l0_3 : List (List (S32))) (r : Bool) (w : World) (hr0_3 : Kd.C (Kd.slice 32 k32) w A0_3 l0_3.length l0_3) (hc0_3 : l0_3.length ≤ c0_3) (h : cubbylaw11_calls.f k a0_0 a0_1 a0_2 l0_3 = some r) :
  Calls Tryd.prog 9 #[.agg #[.string a0_0, .int .i64 a0_1, .int .i64 a0_2, .slice A0_3 l0_3.length c0_3]] w fun e w' => e = .returned (.bool r) ∧ Below w.heap.size w w' := by
 have hu24 := Tryd.underlying24
 have HR0_3 := Aside0.mk hr0_3
 have HC0_3 := Aside0.mk hc0_3
 clear hr0_3 hc0_3
 have HB := Aside0.mk (Below.refl w.heap.size w)
 have H : (cubbylaw11_calls.l0 k 0 a0_0 a0_1 a0_2 l0_3) = some r := h
 clear h
 have H' := Aside0.mk H
 clear H
 go_enter Tryd.func9, Tryd.ntmps9
 go_wp2_with (first | ((with_reducible refine gate_dst (N := 1) rfl ?_); refine box_event ?hg (N := 1) ?hd (cs := #[.string a0_0, .int .i64 a0_1, .int .i64 a0_2, .slice A0_3 l0_3.length c0_3]) (t := 24) ?hr ?_; (case hd => rfl); (case hg => rfl); (case hr => first | (go_simp; done) | (go_simp; rfl)); intro gb262 hg w2 hbox hb; have n0_ := Aside0.mk (below_step (by repeat (first | (with_reducible first | exact HB.out | apply bA | apply bN | apply bD) | exact HB.out)) hb); have n1_ := Aside0.mk (hbox); have n2_ := Aside0.mk ((by rw [hg]; exact (below_size (by repeat (first | (with_reducible first | exact HB.out | apply bA | apply bN | apply bD) | exact HB.out))) : w.heap.size ≤ gb262)); have n3_ := Aside0.mk ((by rw [hg]; exact (below_size (by repeat (first | (with_reducible first | exact HB.out | apply bA | apply bN | apply bD) | exact HB.out))) : w.heap.size ≤ gb262)); clear HB; have HB := n0_; have BK262 := n1_; have GW262 := n2_; have GE262 := n3_; clear n0_ n1_ n2_ n3_; clear hb hbox hg))
 go_loopg [3] k (fun kq v3 w' => ∃ (x3_1 : Int), v3 = .int .i64 x3_1 ∧ Aside0 (cubbylaw11_calls.l0 kq x3_1 a0_0 a0_1 a0_2 l0_3 = some r) ∧ Aside0 (kq ≤ k) ∧ Aside0 (w'.heap[gb262]? = some (.cells #[.string a0_0, .int .i64 a0_1, .int .i64 a0_2, (.slice A0_3 l0_3.length c0_3)] 24 (0, 0))) ∧ Aside0 (Below w.heap.size w w'))
 case atStart => exact ⟨(0), (by first | rfl | (simp; done) | (simp [*]; done)), H', ⟨Nat.le_refl _⟩, ⟨by (with_reducible repeat (first | refine kN ?_ _ | refine blk_drew ?_ | refine kA ?_ _)); exact BK262.out⟩, ⟨by repeat (first | (with_reducible first | exact HB.out | apply bA | apply bN | apply bD | refine bS ?_ GE262.out) | exact HB.out)⟩⟩
 case round =>
  clear H'
  try clear p2
  obtain ⟨x3_1, rfl, HA, HK1, BK262, HB⟩ := hrel
  cases gk with
  | zero => exact absurd HA.out (by simp [cubbylaw11_calls.l0])
  | succ k1 =>
   have H := HA.out
   clear HA
   simp only [cubbylaw11_calls.l0] at H
   by_cases c3 : x3_1 < (l0_3.length : Int)
   ·rw [if_pos c3] at H
    have c3b0 : decide (x3_1 < (l0_3.length : Int)) = true := decide_eq_true c3
    clear c3
    have H' := Aside0.mk H
    clear H
    have hcz4_0 : wr.cell? ⟨gb262, 0, none⟩ = some (.string a0_0) := (bC BK262.out 0).trans rfl
    have hcz4_1 : wr.cell? ⟨gb262, 1, none⟩ = some (.int .i64 a0_1) := (bC BK262.out 1).trans rfl
    have hcz4_2 : wr.cell? ⟨gb262, 2, none⟩ = some (.int .i64 a0_2) := (bC BK262.out 2).trans rfl
    have hcz4_3 : wr.cell? ⟨gb262, 3, none⟩ = some (.slice A0_3 l0_3.length c0_3) := (bC BK262.out 3).trans rfl
    have hfz4_0 := bZ BK262.out 0
    have hfz4_1 := bZ BK262.out 1
    have hfz4_2 := bZ BK262.out 2
    have hfz4_3 := bZ BK262.out 3
    go_wp2
    go_loopg [4] k1 (fun kq v4 w' => ∃ (x4_2 : Int), v4 = .int .i64 x4_2 ∧ Aside0 (cubbylaw11_calls.l1 kq x3_1 x4_2 a0_0 a0_1 a0_2 l0_3 = some r) ∧ Aside0 (kq ≤ k1) ∧ Aside0 (w'.heap[gb262]? = some (.cells #[.string a0_0, .int .i64 a0_1, .int .i64 a0_2, (.slice A0_3 l0_3.length c0_3)] 24 (0, 0))) ∧ Aside0 (Below w.heap.size w w'))
    case atStart => exact ⟨(0), (by first | rfl | (simp; done) | (simp [*]; done)), H', ⟨Nat.le_refl _⟩, ⟨by (with_reducible repeat (first | refine kN ?_ _ | refine blk_drew ?_ | refine kA ?_ _)); exact BK262.out⟩, ⟨by repeat (first | (with_reducible first | exact HB.out | apply bA | apply bN | apply bD | refine bS ?_ GE262.out) | exact HB.out)⟩⟩
    case round =>
     clear H'
     try clear p2
     try clear c3
     try clear c3b0
     try clear hcz4_0
     try clear hcz4_1
     try clear hcz4_2
     try clear hcz4_3
     try clear hfz4_0
     try clear hfz4_1
     try clear hfz4_2
     try clear hfz4_3
     try clear p2
     obtain ⟨x4_2, rfl, HA, HK2, BK262, HB⟩ := hrel
     cases gk with
     | zero => exact absurd HA.out (by simp [cubbylaw11_calls.l1])
     | succ k2 =>
      have H := HA.out
      clear HA
      simp only [cubbylaw11_calls.l1] at H
      by_cases c5 : 0 ≤ x3_1
      ·rw [if_pos c5] at H
       have c5b0 : decide (0 ≤ x3_1) = true := decide_eq_true c5
       clear c5
       by_cases c6 : x3_1 < (l0_3.length : Int)
       ·rw [if_pos c6] at H
        have c6b0 : decide (x3_1 < (l0_3.length : Int)) = true := decide_eq_true c6
        clear c6
        by_cases c7 : x4_2 < ((rd_LT32 l0_3 x3_1).length : Int)
        ·rw [if_pos c7] at H
         have c7b0 : decide (x4_2 < ((rd_LT32 l0_3 x3_1).length : Int)) = true := decide_eq_true c7
         clear c7
         by_cases c8 : 0 ≤ x4_2
         ·rw [if_pos c8] at H
          have c8b0 : decide (0 ≤ x4_2) = true := decide_eq_true c8
          clear c8
          by_cases c9 : ((rd_T32 (rd_LT32 l0_3 x3_1) x4_2).f0) = 11
          ·rw [if_pos c9] at H
           have c9b0 : (((rd_T32 (rd_LT32 l0_3 x3_1) x4_2).f0) == 11) = true := beq_iff_eq.mpr c9
           have c9b1 : (((rd_T32 (rd_LT32 l0_3 x3_1) x4_2).f0) != 11) = false := bne_eq_false_iff_eq.mpr c9
           clear c9
           obtain rfl := Option.some.inj H
           have hcz10_0 : wr.cell? ⟨gb262, 0, none⟩ = some (.string a0_0) := (bC BK262.out 0).trans rfl
           have hcz10_1 : wr.cell? ⟨gb262, 1, none⟩ = some (.int .i64 a0_1) := (bC BK262.out 1).trans rfl
           have hcz10_2 : wr.cell? ⟨gb262, 2, none⟩ = some (.int .i64 a0_2) := (bC BK262.out 2).trans rfl
           have hcz10_3 : wr.cell? ⟨gb262, 3, none⟩ = some (.slice A0_3 l0_3.length c0_3) := (bC BK262.out 3).trans rfl
           have hfz10_0 := bZ BK262.out 0
           have hfz10_1 := bZ BK262.out 1
           have hfz10_2 := bZ BK262.out 2
           have hfz10_3 := bZ BK262.out 3
           have p263 : 0 ≤ (x3_1 : Int) := oD (by first | (with_reducible assumption) | assumption)
           have q263 : x3_1 < (l0_3.length : Int) := oD (by first | (with_reducible assumption) | assumption)
           obtain ⟨ad263, A263_0, c263_0, e263, hx263_0, hl263_0, hi263_0⟩ := at_LT32 HR0_3.out x3_1 p263 q263
           cases e263
           (try replace hx263_0 := (HB.out.cell (lC w _ hx263_0)).trans hx263_0)
           have HR263_0 := Aside0.mk hi263_0
           have HC263_0 := Aside0.mk hl263_0
           clear hi263_0 hl263_0
           replace p263 := eq_true p263
           replace q263 := eq_true q263
           have p264 : 0 ≤ (x3_1 : Int) := oD (by first | (with_reducible assumption) | assumption)
           have q264 : x3_1 < (l0_3.length : Int) := oD (by first | (with_reducible assumption) | assumption)
           obtain ⟨ad264, A264_0, c264_0, e264, hx264_0, hl264_0, hi264_0⟩ := at_LT32 HR0_3.out x3_1 p264 q264
           obtain rfl : ad263 = ad264 := (by injection e264)
           (try replace hx264_0 := (HB.out.cell (lC w _ hx264_0)).trans hx264_0)
           have HR264_0 := Aside0.mk hi264_0
           have HC264_0 := Aside0.mk hl264_0
           clear hi264_0 hl264_0
           replace p264 := eq_true p264
           replace q264 := eq_true q264
           have ea_ := Option.some.inj (hx263_0.symm.trans hx264_0)
           injection ea_ with ea_ en_ ec_
           subst ea_
           subst ec_
           clear en_
           have p265 : 0 ≤ (x4_2 : Int) := oD (by first | (with_reducible assumption) | assumption)
           have q265 : x4_2 < ((rd_LT32 l0_3 x3_1).length : Int) := oD (by first | (with_reducible assumption) | assumption)
           obtain ⟨ad265, A265_5, c265_5, e265, hx265_0, hx265_1, hx265_2, hx265_3, hx265_4, hx265_5, hl265_5, hi265_5⟩ := at_T32 HR264_0.out x4_2 p265 q265
           cases e265
           (try replace hx265_0 := (HB.out.cell (lC w _ hx265_0)).trans hx265_0)
           (try replace hx265_1 := (HB.out.cell (lC w _ hx265_1)).trans hx265_1)
           (try replace hx265_2 := (HB.out.cell (lC w _ hx265_2)).trans hx265_2)
           (try replace hx265_3 := (HB.out.cell (lC w _ hx265_3)).trans hx265_3)
           (try replace hx265_4 := (HB.out.cell (lC w _ hx265_4)).trans hx265_4)
           (try replace hx265_5 := (HB.out.cell (lC w _ hx265_5)).trans hx265_5)
           have HR265_5 := Aside0.mk hi265_5
           have HC265_5 := Aside0.mk hl265_5
           clear hi265_5 hl265_5
           replace p265 := eq_true p265
           replace q265 := eq_true q265
           go_wp2
           go_ret
           exact ⟨by first | rfl | (simp [errW_none, errW_some] <;> rfl) | (simp [*, errW_none, errW_some] <;> rfl), by repeat (first | (with_reducible first | exact HB.out | apply bA | apply bN | apply bD | refine bS ?_ GE262.out) | exact HB.out)⟩
          ·rw [if_neg c9] at H
           have c9b0 : (((rd_T32 (rd_LT32 l0_3 x3_1) x4_2).f0) == 11) = false := beq_eq_false_iff_ne.mpr c9
           have c9b1 : (((rd_T32 (rd_LT32 l0_3 x3_1) x4_2).f0) != 11) = true := bne_iff_ne.mpr c9
           have H' := Aside0.mk H
           clear H
           have hcz11_0 : wr.cell? ⟨gb262, 0, none⟩ = some (.string a0_0) := (bC BK262.out 0).trans rfl
           have hcz11_1 : wr.cell? ⟨gb262, 1, none⟩ = some (.int .i64 a0_1) := (bC BK262.out 1).trans rfl
           have hcz11_2 : wr.cell? ⟨gb262, 2, none⟩ = some (.int .i64 a0_2) := (bC BK262.out 2).trans rfl
           have hcz11_3 : wr.cell? ⟨gb262, 3, none⟩ = some (.slice A0_3 l0_3.length c0_3) := (bC BK262.out 3).trans rfl
           have hfz11_0 := bZ BK262.out 0
           have hfz11_1 := bZ BK262.out 1
           have hfz11_2 := bZ BK262.out 2
           have hfz11_3 := bZ BK262.out 3
           have p263 : 0 ≤ (x3_1 : Int) := oD (by first | (with_reducible assumption) | assumption)
           have q263 : x3_1 < (l0_3.length : Int) := oD (by first | (with_reducible assumption) | assumption)
           obtain ⟨ad263, A263_0, c263_0, e263, hx263_0, hl263_0, hi263_0⟩ := at_LT32 HR0_3.out x3_1 p263 q263
           cases e263
           (try replace hx263_0 := (HB.out.cell (lC w _ hx263_0)).trans hx263_0)
           have HR263_0 := Aside0.mk hi263_0
           have HC263_0 := Aside0.mk hl263_0
           clear hi263_0 hl263_0
           replace p263 := eq_true p263
           replace q263 := eq_true q263
           have p264 : 0 ≤ (x3_1 : Int) := oD (by first | (with_reducible assumption) | assumption)
           have q264 : x3_1 < (l0_3.length : Int) := oD (by first | (with_reducible assumption) | assumption)
           obtain ⟨ad264, A264_0, c264_0, e264, hx264_0, hl264_0, hi264_0⟩ := at_LT32 HR0_3.out x3_1 p264 q264
           obtain rfl : ad263 = ad264 := (by injection e264)
           (try replace hx264_0 := (HB.out.cell (lC w _ hx264_0)).trans hx264_0)
           have HR264_0 := Aside0.mk hi264_0
           have HC264_0 := Aside0.mk hl264_0
           clear hi264_0 hl264_0
           replace p264 := eq_true p264
           replace q264 := eq_true q264
           have ea_ := Option.some.inj (hx263_0.symm.trans hx264_0)
           injection ea_ with ea_ en_ ec_
           subst ea_
           subst ec_
           clear en_
           have p265 : 0 ≤ (x4_2 : Int) := oD (by first | (with_reducible assumption) | assumption)
           have q265 : x4_2 < ((rd_LT32 l0_3 x3_1).length : Int) := oD (by first | (with_reducible assumption) | assumption)
           obtain ⟨ad265, A265_5, c265_5, e265, hx265_0, hx265_1, hx265_2, hx265_3, hx265_4, hx265_5, hl265_5, hi265_5⟩ := at_T32 HR264_0.out x4_2 p265 q265
           cases e265
           (try replace hx265_0 := (HB.out.cell (lC w _ hx265_0)).trans hx265_0)
           (try replace hx265_1 := (HB.out.cell (lC w _ hx265_1)).trans hx265_1)
           (try replace hx265_2 := (HB.out.cell (lC w _ hx265_2)).trans hx265_2)
           (try replace hx265_3 := (HB.out.cell (lC w _ hx265_3)).trans hx265_3)
           (try replace hx265_4 := (HB.out.cell (lC w _ hx265_4)).trans hx265_4)
           (try replace hx265_5 := (HB.out.cell (lC w _ hx265_5)).trans hx265_5)
           have HR265_5 := Aside0.mk hi265_5
           have HC265_5 := Aside0.mk hl265_5
           clear hi265_5 hl265_5
           replace p265 := eq_true p265
           replace q265 := eq_true q265
           go_wp2
           go_roundg k2
           case measure => have := HK1.out; have := HK2.out; omega
           case rel => exact ⟨(wrap64 (x4_2 + 1)), (by first | rfl | (simp; done) | (simp [*]; done)), H', ⟨by have := HK1.out; have := HK2.out; omega⟩, ⟨by (with_reducible repeat (first | refine kN ?_ _ | refine blk_drew ?_ | refine kA ?_ _)); exact BK262.out⟩, ⟨by repeat (first | (with_reducible first | exact HB.out | apply bA | apply bN | apply bD | refine bS ?_ GE262.out) | exact HB.out)⟩⟩
         ·rw [if_neg c8] at H
          exact absurd H (by simp)
        ·rw [if_neg c7] at H
         have c7b0 : decide (x4_2 < ((rd_LT32 l0_3 x3_1).length : Int)) = false := decide_eq_false c7
         clear c7
         have H' := Aside0.mk H
         clear H
         have hcz12_0 : wr.cell? ⟨gb262, 0, none⟩ = some (.string a0_0) := (bC BK262.out 0).trans rfl
         have hcz12_1 : wr.cell? ⟨gb262, 1, none⟩ = some (.int .i64 a0_1) := (bC BK262.out 1).trans rfl
         have hcz12_2 : wr.cell? ⟨gb262, 2, none⟩ = some (.int .i64 a0_2) := (bC BK262.out 2).trans rfl
         have hcz12_3 : wr.cell? ⟨gb262, 3, none⟩ = some (.slice A0_3 l0_3.length c0_3) := (bC BK262.out 3).trans rfl
         have hfz12_0 := bZ BK262.out 0
         have hfz12_1 := bZ BK262.out 1
         have hfz12_2 := bZ BK262.out 2
         have hfz12_3 := bZ BK262.out 3
         have p263 : 0 ≤ (x3_1 : Int) := oD (by first | (with_reducible assumption) | assumption)
         have q263 : x3_1 < (l0_3.length : Int) := oD (by first | (with_reducible assumption) | assumption)
         obtain ⟨ad263, A263_0, c263_0, e263, hx263_0, hl263_0, hi263_0⟩ := at_LT32 HR0_3.out x3_1 p263 q263
         cases e263
         (try replace hx263_0 := (HB.out.cell (lC w _ hx263_0)).trans hx263_0)
         have HR263_0 := Aside0.mk hi263_0
         have HC263_0 := Aside0.mk hl263_0
         clear hi263_0 hl263_0
         replace p263 := eq_true p263
         replace q263 := eq_true q263
         go_wp2
         go_roundg k2
         case measure => have := HK1.out; have := HK2.out; omega
         case rel => exact ⟨(wrap64 (x3_1 + 1)), (by first | rfl | (simp; done) | (simp [*]; done)), H', ⟨by have := HK1.out; have := HK2.out; omega⟩, ⟨by (with_reducible repeat (first | refine kN ?_ _ | refine blk_drew ?_ | refine kA ?_ _)); exact BK262.out⟩, ⟨by repeat (first | (with_reducible first | exact HB.out | apply bA | apply bN | apply bD | refine bS ?_ GE262.out) | exact HB.out)⟩⟩
       ·rw [if_neg c6] at H
        exact absurd H (by simp)
      ·rw [if_neg c5] at H
       exact absurd H (by simp)
   ·rw [if_neg c3] at H
    have c3b0 : decide (x3_1 < (l0_3.length : Int)) = false := decide_eq_false c3
    clear c3
    obtain rfl := Option.some.inj H
    have hcz13_0 : wr.cell? ⟨gb262, 0, none⟩ = some (.string a0_0) := (bC BK262.out 0).trans rfl
    have hcz13_1 : wr.cell? ⟨gb262, 1, none⟩ = some (.int .i64 a0_1) := (bC BK262.out 1).trans rfl
    have hcz13_2 : wr.cell? ⟨gb262, 2, none⟩ = some (.int .i64 a0_2) := (bC BK262.out 2).trans rfl
    have hcz13_3 : wr.cell? ⟨gb262, 3, none⟩ = some (.slice A0_3 l0_3.length c0_3) := (bC BK262.out 3).trans rfl
    have hfz13_0 := bZ BK262.out 0
    have hfz13_1 := bZ BK262.out 1
    have hfz13_2 := bZ BK262.out 2
    have hfz13_3 := bZ BK262.out 3
    go_wp2
    go_ret
    exact ⟨by first | rfl | (simp [errW_none, errW_some] <;> rfl) | (simp [*, errW_none, errW_some] <;> rfl), by repeat (first | (with_reducible first | exact HB.out | apply bA | apply bN | apply bD | refine bS ?_ GE262.out) | exact HB.out)⟩
end Go.Proofs.YtoilapjkgligfaaDoor.P
namespace Go.Proofs.YtoilapjkgligfaaDoor.P
open Go.RowKit Go.Proofs.YtoilapjkgligfaaDoorW.PrintWords Go.Proofs.YtoilapjkgligfaaDoorW.PrintLast Go.Proofs.YtoilapjkgligfaaDoorW.PrintMore
attribute [local go_sem] max2_int min2_int max_two min_two max_three min_three max_four min_four 
set_option linter.unusedVariables false
set_option linter.unusedSimpArgs false
def cubbyref10_Ints.l0 : Nat → List Int → List Int → Int → Option (Bool)
 | 0, _, _, _ => none
 | k + 1, x0, x1, x5 => if x5 < (x0.length : Int) then (if 0 ≤ x5 then (if x5 < (x1.length : Int) then (if (rd x0 x5) = (rd x1 x5) then (cubbyref10_Ints.l0 k x0 x1 (wrap64 (x5 + 1))) else (some false)) else (none)) else (none)) else (some true)
def cubbyref10_Ints.f (k : Nat) (l0 : List Int) (l1 : List Int) : Option (Bool) := if (l0.length : Int) = (l1.length : Int) then (cubbyref10_Ints.l0 k l0 l1 0) else (some false)
set_option maxHeartbeats 8000000 in
set_option maxRecDepth 100000 in
theorem cubbyref10_Ints.calls (k : Nat) (A0 : Option Addr) (c0 : Nat) (l0 : List Int) (A1 : Option Addr) (c1 : Nat) (l1 : List Int) (r : Bool) (w : World) (hr0 : Kd.C (Kd.int .i64) w A0 l0.length l0) (hc0 : l0.length ≤ c0) (hr1 : Kd.C (Kd.int .i64) w A1 l1.length l1) (hc1 : l1.length ≤ c1) (h : cubbyref10_Ints.f k l0 l1 = some r) :
  Calls Tryd.prog 36 #[.slice A0 l0.length c0, .slice A1 l1.length c1] w fun e w' => e = .returned (.bool r) ∧ Drawn0 w w' := by
 have HR0 := Aside0.mk hr0
 have HC0 := Aside0.mk hc0
 clear hr0 hc0
 have HR1 := Aside0.mk hr1
 have HC1 := Aside0.mk hc1
 clear hr1 hc1
 have H : (if (l0.length : Int) = (l1.length : Int) then (cubbyref10_Ints.l0 k l0 l1 0) else (some false)) = some r := h
 clear h
 by_cases c3 : (l0.length : Int) = (l1.length : Int)
 ·rw [if_pos c3] at H
  have c3b0 : ((l0.length : Int) == (l1.length : Int)) = true := beq_iff_eq.mpr c3
  have c3b1 : ((l0.length : Int) != (l1.length : Int)) = false := bne_eq_false_iff_eq.mpr c3
  have c3b2 : (l0.length == l1.length) = true := by first | simpa using c3 | (simp at c3 ⊢; omega)
  clear c3
  have H' := Aside0.mk H
  clear H
  go_enter Tryd.func36, Tryd.ntmps36
  go_wp2
  repeat (go_quiet (fail); try go_wp2)
  go_loopg [5] k (fun kq v5 w' => ∃ (x5_1 : Int), v5 = .int .i64 x5_1 ∧ Aside0 (cubbyref10_Ints.l0 kq l0 l1 x5_1 = some r) ∧ Aside0 (kq ≤ k) ∧ Drawn0 w w')
  case atStart => exact ⟨(0), (by first | rfl | (simp; done) | (simp [*]; done)), H', ⟨Nat.le_refl _⟩, by repeat (first | exact Drawn0.refl _ | apply Drawn0.step)⟩
  case round =>
   clear H'
   try clear c1
   try clear p2
   try clear c3
   try clear c3b0
   try clear c3b1
   try clear c3b2
   obtain ⟨x5_1, rfl, HA, HK1, ⟨m1, rfl⟩⟩ := hrel
   cases gk with
   | zero => exact absurd HA.out (by simp [cubbyref10_Ints.l0])
   | succ k1 =>
    have H := HA.out
    clear HA
    simp only [cubbyref10_Ints.l0] at H
    by_cases c4 : x5_1 < (l0.length : Int)
    ·rw [if_pos c4] at H
     have c4b0 : decide (x5_1 < (l0.length : Int)) = true := decide_eq_true c4
     clear c4
     by_cases c5 : 0 ≤ x5_1
     ·rw [if_pos c5] at H
      have c5b0 : decide (0 ≤ x5_1) = true := decide_eq_true c5
      clear c5
      by_cases c6 : x5_1 < (l1.length : Int)
      ·rw [if_pos c6] at H
       have c6b0 : decide (x5_1 < (l1.length : Int)) = true := decide_eq_true c6
       clear c6
       by_cases c7 : (rd l0 x5_1) = (rd l1 x5_1)
       ·rw [if_pos c7] at H
        have c7b0 : ((rd l0 x5_1) == (rd l1 x5_1)) = true := beq_iff_eq.mpr c7
        have c7b1 : ((rd l0 x5_1) != (rd l1 x5_1)) = false := bne_eq_false_iff_eq.mpr c7
        clear c7
        have H' := Aside0.mk H
        clear H
        have p272 : 0 ≤ (x5_1 : Int) := oD (by first | (with_reducible assumption) | assumption)
        have q272 : x5_1 < (l0.length : Int) := oD (by first | (with_reducible assumption) | assumption)
        obtain ⟨ad272, e272, hx272_0⟩ := Kd.at_int HR0.out x5_1 p272 q272
        cases e272
        replace p272 := eq_true p272
        replace q272 := eq_true q272
        have p273 : 0 ≤ (x5_1 : Int) := oD (by first | (with_reducible assumption) | assumption)
        have q273 : x5_1 < (l1.length : Int) := oD (by first | (with_reducible assumption) | assumption)
        obtain ⟨ad273, e273, hx273_0⟩ := Kd.at_int HR1.out x5_1 p273 q273
        cases e273
        replace p273 := eq_true p273
        replace q273 := eq_true q273
        go_wp2
        repeat (go_quiet (fail); try go_wp2)
        go_roundg k1
        case measure => have := HK1.out; omega
        case rel => exact ⟨(wrap64 (x5_1 + 1)), (by first | rfl | (simp; done) | (simp [*]; done)), H', ⟨by have := HK1.out; omega⟩, by repeat (first | exact Drawn0.refl _ | apply Drawn0.step)⟩
       ·rw [if_neg c7] at H
        have c7b0 : ((rd l0 x5_1) == (rd l1 x5_1)) = false := beq_eq_false_iff_ne.mpr c7
        have c7b1 : ((rd l0 x5_1) != (rd l1 x5_1)) = true := bne_iff_ne.mpr c7
        obtain rfl := Option.some.inj H
        have p272 : 0 ≤ (x5_1 : Int) := oD (by first | (with_reducible assumption) | assumption)
        have q272 : x5_1 < (l0.length : Int) := oD (by first | (with_reducible assumption) | assumption)
        obtain ⟨ad272, e272, hx272_0⟩ := Kd.at_int HR0.out x5_1 p272 q272
        cases e272
        replace p272 := eq_true p272
        replace q272 := eq_true q272
        have p273 : 0 ≤ (x5_1 : Int) := oD (by first | (with_reducible assumption) | assumption)
        have q273 : x5_1 < (l1.length : Int) := oD (by first | (with_reducible assumption) | assumption)
        obtain ⟨ad273, e273, hx273_0⟩ := Kd.at_int HR1.out x5_1 p273 q273
        cases e273
        replace p273 := eq_true p273
        replace q273 := eq_true q273
        go_wp2
        repeat (go_quiet (fail); try go_wp2)
        go_ret
        exact ⟨by first | rfl | (simp; done) | (simp [*]; done), by repeat (first | exact Drawn0.refl _ | apply Drawn0.step)⟩
      ·rw [if_neg c6] at H
       exact absurd H (by simp)
     ·rw [if_neg c5] at H
      exact absurd H (by simp)
    ·rw [if_neg c4] at H
     have c4b0 : decide (x5_1 < (l0.length : Int)) = false := decide_eq_false c4
     clear c4
     obtain rfl := Option.some.inj H
     go_wp2
     repeat (go_quiet (fail); try go_wp2)
     go_ret
     exact ⟨by first | rfl | (simp; done) | (simp [*]; done), by repeat (first | exact Drawn0.refl _ | apply Drawn0.step)⟩
 ·rw [if_neg c3] at H
  have c3b0 : ((l0.length : Int) == (l1.length : Int)) = false := beq_eq_false_iff_ne.mpr c3
  have c3b1 : ((l0.length : Int) != (l1.length : Int)) = true := bne_iff_ne.mpr c3
  have c3b2 : (l0.length == l1.length) = false := by first | simpa using c3 | (simp at c3 ⊢; omega)
  obtain rfl := Option.some.inj H
  go_enter Tryd.func36, Tryd.ntmps36
  go_wp2
  repeat (go_quiet (fail); try go_wp2)
  go_ret
  exact ⟨by first | rfl | (simp; done) | (simp [*]; done), by repeat (first | exact Drawn0.refl _ | apply Drawn0.step)⟩
end Go.Proofs.YtoilapjkgligfaaDoor.P
namespace Go.Proofs.YtoilapjkgligfaaDoor.P
open Go.RowKit Go.Proofs.YtoilapjkgligfaaDoorW.PrintWords Go.Proofs.YtoilapjkgligfaaDoorW.PrintLast Go.Proofs.YtoilapjkgligfaaDoorW.PrintMore
attribute [local go_sem] max2_int min2_int max_two min_two max_three min_three max_four min_four 
set_option linter.unusedVariables false
set_option linter.unusedSimpArgs false
def cubbylaw11_same.f (k : Nat) (l0 : List Int) (l1 : List Int) : Option (Bool) := (cubbyref10_Ints.f k l0 l1).bind fun t274 => (some t274)
set_option maxHeartbeats 8000000 in
set_option maxRecDepth 100000 in
theorem cubbylaw11_same.calls (k : Nat) (A0 : Option Addr) (c0 : Nat) (l0 : List Int) (A1 : Option Addr) (c1 : Nat) (l1 : List Int) (r : Bool) (w : World) (hr0 : Kd.C (Kd.int .i64) w A0 l0.length l0) (hc0 : l0.length ≤ c0) (hr1 : Kd.C (Kd.int .i64) w A1 l1.length l1) (hc1 : l1.length ≤ c1) (h : cubbylaw11_same.f k l0 l1 = some r) :
  Calls Tryd.prog 13 #[.slice A0 l0.length c0, .slice A1 l1.length c1] w fun e w' => e = .returned (.bool r) ∧ Drawn0 w w' := by
 have HR0 := Aside0.mk hr0
 have HC0 := Aside0.mk hc0
 clear hr0 hc0
 have HR1 := Aside0.mk hr1
 have HC1 := Aside0.mk hc1
 clear hr1 hc1
 have H : ((cubbyref10_Ints.f k l0 l1).bind fun t274 => (some t274)) = some r := h
 clear h
 replace H := Option.bind_eq_some_iff.mp H
 obtain ⟨t274, A30, H⟩ := H
 replace H : (some t274) = some r := H
 have A3 := Aside0.mk A30
 clear A30
 obtain rfl := Option.some.inj H
 go_enter Tryd.func13, Tryd.ntmps13
 go_wp2_with (first | ((with_reducible refine gate_callee (f := 36) rfl ?_); refine goesL_ (some 7) rfl rfl Tryd.func36 (by kernel_rfl) rfl #[.slice A0 l0.length c0, .slice A1 l1.length c1] rfl (by (try simp only [List.map_toArray, List.map_cons, List.map_nil]); first | done | rfl | (simp only [List.length_drop, List.length_take]; rfl)) ?_; (with_reducible refine (cubbyref10_Ints.calls k _ _ l0 _ _ l1 t274 _ ?side1 ?side2 ?side3 ?side4 A3.out).mono ?_); (case side1 => repeat (first | exact HR0.out | (with_reducible refine Kd.C_alloc ?_ _) | (with_reducible refine Kd.C_drewN ?_ _) | (with_reducible refine Kd.C_drew ?_))); (case side2 => exact HC0.out); (case side3 => repeat (first | exact HR1.out | (with_reducible refine Kd.C_alloc ?_ _) | (with_reducible refine Kd.C_drewN ?_ _) | (with_reducible refine Kd.C_drew ?_))); (case side4 => exact HC1.out); rintro e w' ⟨rfl, ⟨nd, rfl⟩⟩; refine ⟨_, rfl, ?_⟩; (try clear A3)))
 go_ret
 exact ⟨by first | rfl | (simp; done) | (simp [*]; done), by repeat (first | exact Drawn0.refl _ | apply Drawn0.step)⟩
end Go.Proofs.YtoilapjkgligfaaDoor.P
namespace Go.Proofs.YtoilapjkgligfaaDoor.P
open Go.RowKit Go.Proofs.YtoilapjkgligfaaDoorW.PrintWords Go.Proofs.YtoilapjkgligfaaDoorW.PrintLast Go.Proofs.YtoilapjkgligfaaDoorW.PrintMore
attribute [local go_sem] max2_int min2_int max_two min_two max_three min_three max_four min_four 
set_option linter.unusedVariables false
set_option linter.unusedSimpArgs false
def cubbyref09_has.l0 : Nat → List Int → Int → Int → Option (Bool)
 | 0, _, _, _ => none
 | k + 1, x0, x1, x5 => if x5 < (x0.length : Int) then (if 0 ≤ x5 then (if (rd x0 x5) = x1 then (some true) else (cubbyref09_has.l0 k x0 x1 (wrap64 (x5 + 1)))) else (none)) else (some false)
def cubbyref09_has.f (k : Nat) (l0 : List Int) (a1 : Int) : Option (Bool) := cubbyref09_has.l0 k l0 a1 0
set_option maxHeartbeats 8000000 in
set_option maxRecDepth 100000 in
theorem cubbyref09_has.calls (k : Nat) (A0 : Option Addr) (c0 : Nat) (l0 : List Int) (a1 : Int) (r : Bool) (w : World) (hr0 : Kd.C (Kd.int .i64) w A0 l0.length l0) (hc0 : l0.length ≤ c0) (h : cubbyref09_has.f k l0 a1 = some r) :
  Calls Tryd.prog 154 #[.slice A0 l0.length c0, .int .i64 a1] w fun e w' => e = .returned (.bool r) ∧ Drawn0 w w' := by
 have HR0 := Aside0.mk hr0
 have HC0 := Aside0.mk hc0
 clear hr0 hc0
 have H : (cubbyref09_has.l0 k l0 a1 0) = some r := h
 clear h
 have H' := Aside0.mk H
 clear H
 go_enter Tryd.func154, Tryd.ntmps154
 go_wp2
 go_loopg [5] k (fun kq v5 w' => ∃ (x5_1 : Int), v5 = .int .i64 x5_1 ∧ Aside0 (cubbyref09_has.l0 kq l0 a1 x5_1 = some r) ∧ Aside0 (kq ≤ k) ∧ Drawn0 w w')
 case atStart => exact ⟨(0), (by first | rfl | (simp; done) | (simp [*]; done)), H', ⟨Nat.le_refl _⟩, by repeat (first | exact Drawn0.refl _ | apply Drawn0.step)⟩
 case round =>
  clear H'
  try clear c1
  try clear p2
  obtain ⟨x5_1, rfl, HA, HK1, ⟨m1, rfl⟩⟩ := hrel
  cases gk with
  | zero => exact absurd HA.out (by simp [cubbyref09_has.l0])
  | succ k1 =>
   have H := HA.out
   clear HA
   simp only [cubbyref09_has.l0] at H
   by_cases c3 : x5_1 < (l0.length : Int)
   ·rw [if_pos c3] at H
    have c3b0 : decide (x5_1 < (l0.length : Int)) = true := decide_eq_true c3
    clear c3
    by_cases c4 : 0 ≤ x5_1
    ·rw [if_pos c4] at H
     have c4b0 : decide (0 ≤ x5_1) = true := decide_eq_true c4
     clear c4
     by_cases c5 : (rd l0 x5_1) = a1
     ·rw [if_pos c5] at H
      have c5b0 : ((rd l0 x5_1) == a1) = true := beq_iff_eq.mpr c5
      have c5b1 : ((rd l0 x5_1) != a1) = false := bne_eq_false_iff_eq.mpr c5
      clear c5
      obtain rfl := Option.some.inj H
      have p168 : 0 ≤ (x5_1 : Int) := oD (by first | (with_reducible assumption) | assumption)
      have q168 : x5_1 < (l0.length : Int) := oD (by first | (with_reducible assumption) | assumption)
      obtain ⟨ad168, e168, hx168_0⟩ := Kd.at_int HR0.out x5_1 p168 q168
      cases e168
      replace p168 := eq_true p168
      replace q168 := eq_true q168
      go_wp2
      go_ret
      exact ⟨by first | rfl | (simp; done) | (simp [*]; done), by repeat (first | exact Drawn0.refl _ | apply Drawn0.step)⟩
     ·rw [if_neg c5] at H
      have c5b0 : ((rd l0 x5_1) == a1) = false := beq_eq_false_iff_ne.mpr c5
      have c5b1 : ((rd l0 x5_1) != a1) = true := bne_iff_ne.mpr c5
      have H' := Aside0.mk H
      clear H
      have p168 : 0 ≤ (x5_1 : Int) := oD (by first | (with_reducible assumption) | assumption)
      have q168 : x5_1 < (l0.length : Int) := oD (by first | (with_reducible assumption) | assumption)
      obtain ⟨ad168, e168, hx168_0⟩ := Kd.at_int HR0.out x5_1 p168 q168
      cases e168
      replace p168 := eq_true p168
      replace q168 := eq_true q168
      go_wp2
      go_roundg k1
      case measure => have := HK1.out; omega
      case rel => exact ⟨(wrap64 (x5_1 + 1)), (by first | rfl | (simp; done) | (simp [*]; done)), H', ⟨by have := HK1.out; omega⟩, by repeat (first | exact Drawn0.refl _ | apply Drawn0.step)⟩
    ·rw [if_neg c4] at H
     exact absurd H (by simp)
   ·rw [if_neg c3] at H
    have c3b0 : decide (x5_1 < (l0.length : Int)) = false := decide_eq_false c3
    clear c3
    obtain rfl := Option.some.inj H
    go_wp2
    go_ret
    exact ⟨by first | rfl | (simp; done) | (simp [*]; done), by repeat (first | exact Drawn0.refl _ | apply Drawn0.step)⟩
end Go.Proofs.YtoilapjkgligfaaDoor.P
