import Derived.Test.YtoilapjkgligfaaDoorKP
import Derived.Test.YtoilapjkgligfaaDoorKa1
import Derived.Test.YtoilapjkgligfaaDoorKa0
import Derived.Test.YtoilapjkgligfaaDoorKa3
import Derived.Deep.RegionHeld3
import Derived.Deep.RegionWith
import Derived.Deep.DeepMust
namespace Go.Proofs.YtoilapjkgligfaaDoor.P
open Go.RowKit Go.Proofs.YtoilapjkgligfaaDoorW.PrintWords Go.Proofs.YtoilapjkgligfaaDoorW.PrintLast Go.Proofs.YtoilapjkgligfaaDoorW.PrintMore
attribute [local go_sem] max2_int min2_int max_two min_two max_three min_three max_four min_four 
set_option linter.unusedVariables false
set_option linter.unusedSimpArgs false
def ir_Uses.j0 : Nat → List Int → ByteArray → Int → Int → Int → Int → ByteArray → List Int → Option (List Int)
 | 0, _, _, _, _, _, _, _, _ => none
 | k + 1, x3, x4, y0, y1, y2, y3, y4, y5 => if 2 < (x4.size : Int) then (if (bt x4 2) = 114 then (if x3.length < 17592186044416 then ((some (x3 ++ [y3] : List Int)).bind fun y789 => (if y0 = 11 then (if y789.length + y5.length < 17592186044416 then (some (y789 ++ y5)) else (none)) else (some y789))) else (none)) else (if y0 = 11 then (if x3.length + y5.length < 17592186044416 then (some (x3 ++ y5)) else (none)) else (some x3))) else (none)
def ir_Uses.f (k : Nat) (a0_0 : Int) (a0_1 : Int) (a0_2 : Int) (a0_3 : Int) (a0_4 : ByteArray) (l0_5 : List Int) : Option (List Int) := (ir_shape.f a0_0).bind fun t785 => (if t785.toList = ([] : List UInt8) then (some ([] : List Int)) else (if 1 < (t785.size : Int) then (if (bt t785 1) = 114 then (if ([] : List Int).length < 17592186044416 then (ir_Uses.j0 k (([] : List Int) ++ [a0_2]) t785 a0_0 a0_1 a0_2 a0_3 a0_4 l0_5) else (none)) else (ir_Uses.j0 k ([] : List Int) t785 a0_0 a0_1 a0_2 a0_3 a0_4 l0_5)) else (none)))
set_option maxHeartbeats 8000000 in
set_option maxRecDepth 100000 in
theorem ir_Uses.calls (k : Nat) (a0_0 : Int) (a0_1 : Int) (a0_2 : Int) (a0_3 : Int) (a0_4 : ByteArray) (A0_5 : Option Addr) (c0_5 : Nat) (l0_5 : List Int) (r : List Int) (w : World) (hGS : GS w) (hr0_5 : Kd.C (Kd.int .i64) w A0_5 l0_5.length l0_5) (hc0_5 : l0_5.length ≤ c0_5) (h : ir_Uses.f k a0_0 a0_1 a0_2 a0_3 a0_4 l0_5 = some r) :
  Calls Tryd.prog 97 #[.agg #[.int .i64 a0_0, .int .i64 a0_1, .int .i64 a0_2, .int .i64 a0_3, .string a0_4, .slice A0_5 l0_5.length c0_5]] w fun e w' => ∃ v0_ : Value, e = .returned (v0_) ∧ Kd.R (Kd.int .i64) 3 w' w.heap.size (fun _ => True) v0_ r ∧ Below w.heap.size w w' := by
 have hu32 := Tryd.underlying32
 have HGS := Aside0.mk hGS
 clear hGS
 have HR0_5 := Aside0.mk hr0_5
 have HC0_5 := Aside0.mk hc0_5
 clear hr0_5 hc0_5
 have HB := Aside0.mk (Below.refl w.heap.size w)
 have H : ((ir_shape.f a0_0).bind fun t785 => (if t785.toList = ([] : List UInt8) then (some ([] : List Int)) else (if 1 < (t785.size : Int) then (if (bt t785 1) = 114 then (if ([] : List Int).length < 17592186044416 then (ir_Uses.j0 k (([] : List Int) ++ [a0_2]) t785 a0_0 a0_1 a0_2 a0_3 a0_4 l0_5) else (none)) else (ir_Uses.j0 k ([] : List Int) t785 a0_0 a0_1 a0_2 a0_3 a0_4 l0_5)) else (none)))) = some r := h
 clear h
 replace H := Option.bind_eq_some_iff.mp H
 obtain ⟨t785, A20, H⟩ := H
 replace H : (if t785.toList = ([] : List UInt8) then (some ([] : List Int)) else (if 1 < (t785.size : Int) then (if (bt t785 1) = 114 then (if ([] : List Int).length < 17592186044416 then (ir_Uses.j0 k (([] : List Int) ++ [a0_2]) t785 a0_0 a0_1 a0_2 a0_3 a0_4 l0_5) else (none)) else (ir_Uses.j0 k ([] : List Int) t785 a0_0 a0_1 a0_2 a0_3 a0_4 l0_5)) else (none))) = some r := H
 have A2 := Aside0.mk A20
 clear A20
 by_cases c3 : t785.toList = ([] : List UInt8)
 ·rw [if_pos c3] at H
  have c3b0 : (t785.toList == ([] : List UInt8)) = true := beq_iff_eq.mpr c3
  have c3b1 : (t785.toList != ([] : List UInt8)) = false := bne_eq_false_iff_eq.mpr c3
  clear c3
  obtain rfl := Option.some.inj H
  go_enter Tryd.func97, Tryd.ntmps97
  go_wp2_with (first | ((with_reducible refine gate_dst (N := 1) rfl ?_); refine box_event ?hg (N := 1) ?hd (cs := #[.int .i64 a0_0, .int .i64 a0_1, .int .i64 a0_2, .int .i64 a0_3, .string a0_4, .slice A0_5 l0_5.length c0_5]) (t := 32) ?hr ?_; (case hd => rfl); (case hg => rfl); (case hr => first | (go_simp; done) | (go_simp; rfl)); intro gb784 hg w4 hbox hb; have n0_ := Aside0.mk (below_step (by repeat (first | (with_reducible first | exact HB.out | apply bA | apply bN | apply bD) | exact HB.out)) hb); have n1_ := Aside0.mk (hbox); have n2_ := Aside0.mk ((by rw [hg]; exact (below_size (by repeat (first | (with_reducible first | exact HB.out | apply bA | apply bN | apply bD) | exact HB.out))) : w.heap.size ≤ gb784)); have n3_ := Aside0.mk ((by rw [hg]; exact (below_size (by repeat (first | (with_reducible first | exact HB.out | apply bA | apply bN | apply bD) | exact HB.out))) : w.heap.size ≤ gb784)); clear HB; have HB := n0_; have BK784 := n1_; have GW784 := n2_; have GE784 := n3_; clear n0_ n1_ n2_ n3_; clear hb hbox hg; have hcz5_0 : w4.cell? ⟨gb784, 0, none⟩ = some (.int .i64 a0_0) := (bC BK784.out 0).trans rfl; have hcz5_1 : w4.cell? ⟨gb784, 1, none⟩ = some (.int .i64 a0_1) := (bC BK784.out 1).trans rfl; have hcz5_2 : w4.cell? ⟨gb784, 2, none⟩ = some (.int .i64 a0_2) := (bC BK784.out 2).trans rfl; have hcz5_3 : w4.cell? ⟨gb784, 3, none⟩ = some (.int .i64 a0_3) := (bC BK784.out 3).trans rfl; have hcz5_4 : w4.cell? ⟨gb784, 4, none⟩ = some (.string a0_4) := (bC BK784.out 4).trans rfl; have hcz5_5 : w4.cell? ⟨gb784, 5, none⟩ = some (.slice A0_5 l0_5.length c0_5) := (bC BK784.out 5).trans rfl; have hfz5_0 := bZ BK784.out 0; have hfz5_1 := bZ BK784.out 1; have hfz5_2 := bZ BK784.out 2; have hfz5_3 := bZ BK784.out 3; have hfz5_4 := bZ BK784.out 4; have hfz5_5 := bZ BK784.out 5) | ((with_reducible refine gate_callee (f := 107) rfl ?_); refine goesL_ (some 7) rfl rfl Tryd.func107 (by kernel_rfl) rfl #[.int .i64 a0_0] rfl (by (try simp only [List.map_toArray, List.map_cons, List.map_nil]); first | done | rfl | (simp only [List.length_drop, List.length_take]; rfl)) ?_; (with_reducible refine (ir_shape.calls a0_0 t785 _ ?side1 A2.out).mono ?_); (case side1 => first | exact GS.of_below HGS.out (by repeat (first | (with_reducible first | exact HB.out | apply bA | apply bN | apply bD | refine bS ?_ GE784.out) | exact HB.out)) | (repeat (first | exact HGS.out | apply GS.alloc | apply GS.drewN | apply GS.drew))); rintro e w' ⟨rfl, ⟨nd, rfl⟩⟩; refine ⟨_, rfl, ?_⟩; (try clear A2)))
  go_ret
  exact ⟨_, by first | rfl | (simp [errW_none, errW_some] <;> rfl) | (simp [*, errW_none, errW_some] <;> rfl), by first | exact Kd.R_nil _ _ _ _ _ | exact Kd.N_nil _ _ _ _ _ | exact Kd.V_nil _ _ _ _ _ | exact Kd.Q_nil _ _ _ _ _ | exact Kd.S_nil _ _ _ _ _, by repeat (first | (with_reducible first | exact HB.out | apply bA | apply bN | apply bD | refine bS ?_ GE784.out) | exact HB.out)⟩
 ·rw [if_neg c3] at H
  have c3b0 : (t785.toList == ([] : List UInt8)) = false := beq_eq_false_iff_ne.mpr c3
  have c3b1 : (t785.toList != ([] : List UInt8)) = true := bne_iff_ne.mpr c3
  by_cases c6 : 1 < (t785.size : Int)
  ·rw [if_pos c6] at H
   have c6b0 : decide (1 < (t785.size : Int)) = true := decide_eq_true c6
   have c6b1 : decide (1 < t785.size) = true := decide_eq_true (by omega)
   clear c6
   have HC8 := Aside0.mk H
   clear H
   go_enter Tryd.func97, Tryd.ntmps97
   go_upto_if 12 with (first | ((with_reducible refine gate_dst (N := 1) rfl ?_); refine box_event ?hg (N := 1) ?hd (cs := #[.int .i64 a0_0, .int .i64 a0_1, .int .i64 a0_2, .int .i64 a0_3, .string a0_4, .slice A0_5 l0_5.length c0_5]) (t := 32) ?hr ?_; (case hd => rfl); (case hg => rfl); (case hr => first | (go_simp; done) | (go_simp; rfl)); intro gb784 hg w9 hbox hb; have n0_ := Aside0.mk (below_step (by repeat (first | (with_reducible first | exact HB.out | apply bA | apply bN | apply bD) | exact HB.out)) hb); have n1_ := Aside0.mk (hbox); have n2_ := Aside0.mk ((by rw [hg]; exact (below_size (by repeat (first | (with_reducible first | exact HB.out | apply bA | apply bN | apply bD) | exact HB.out))) : w.heap.size ≤ gb784)); have n3_ := Aside0.mk ((by rw [hg]; exact (below_size (by repeat (first | (with_reducible first | exact HB.out | apply bA | apply bN | apply bD) | exact HB.out))) : w.heap.size ≤ gb784)); clear HB; have HB := n0_; have BK784 := n1_; have GW784 := n2_; have GE784 := n3_; clear n0_ n1_ n2_ n3_; clear hb hbox hg; have hcz10_0 : w9.cell? ⟨gb784, 0, none⟩ = some (.int .i64 a0_0) := (bC BK784.out 0).trans rfl; have hcz10_1 : w9.cell? ⟨gb784, 1, none⟩ = some (.int .i64 a0_1) := (bC BK784.out 1).trans rfl; have hcz10_2 : w9.cell? ⟨gb784, 2, none⟩ = some (.int .i64 a0_2) := (bC BK784.out 2).trans rfl; have hcz10_3 : w9.cell? ⟨gb784, 3, none⟩ = some (.int .i64 a0_3) := (bC BK784.out 3).trans rfl; have hcz10_4 : w9.cell? ⟨gb784, 4, none⟩ = some (.string a0_4) := (bC BK784.out 4).trans rfl; have hcz10_5 : w9.cell? ⟨gb784, 5, none⟩ = some (.slice A0_5 l0_5.length c0_5) := (bC BK784.out 5).trans rfl; have hfz10_0 := bZ BK784.out 0; have hfz10_1 := bZ BK784.out 1; have hfz10_2 := bZ BK784.out 2; have hfz10_3 := bZ BK784.out 3; have hfz10_4 := bZ BK784.out 4; have hfz10_5 := bZ BK784.out 5) | ((with_reducible refine gate_callee (f := 107) rfl ?_); refine goesL_ (some 7) rfl rfl Tryd.func107 (by kernel_rfl) rfl #[.int .i64 a0_0] rfl (by (try simp only [List.map_toArray, List.map_cons, List.map_nil]); first | done | rfl | (simp only [List.length_drop, List.length_take]; rfl)) ?_; (with_reducible refine (ir_shape.calls a0_0 t785 _ ?side1 A2.out).mono ?_); (case side1 => first | exact GS.of_below HGS.out (by repeat (first | (with_reducible first | exact HB.out | apply bA | apply bN | apply bD | refine bS ?_ GE784.out) | exact HB.out)) | (repeat (first | exact HGS.out | apply GS.alloc | apply GS.drewN | apply GS.drew))); rintro e w' ⟨rfl, ⟨nd, rfl⟩⟩; refine ⟨_, rfl, ?_⟩; (try clear A2); have p7 : 0 ≤ (1 : Int) := (by omega); have q7 : 1 < t785.size := (by have : (1 : Int) < (t785.size : Int) := oD (by first | (with_reducible assumption) | assumption); omega); have hx7 : ∀ h : 1 < t785.size, ((t785[1]'h).toNat : Int) = bt t785 1 := bt_at t785 1; clear p7; have qi7 : (1 < (t785.size : Int)) = True := eq_true (oD (by first | (with_reducible assumption) | assumption)); replace q7 := eq_true q7))
   (try simp only [Act.put, List.setIfInBounds_toArray, List.set_cons_zero, List.set_cons_succ])
   go_cut [3] (fun v3 wc => ∃ (kq : Nat) (x3_7 : List Int), Aside0 (ir_Uses.j0 kq x3_7 t785 a0_0 a0_1 a0_2 a0_3 a0_4 l0_5 = some r) ∧ Aside0 (kq ≤ k) ∧ Aside0 (Kd.R (Kd.int .i64) 3 wc w.heap.size (fun _ => True) v3 x3_7) ∧ Aside0 (wc.heap[gb784]? = some (.cells #[.int .i64 a0_0, .int .i64 a0_1, .int .i64 a0_2, .int .i64 a0_3, .string a0_4, (.slice A0_5 l0_5.length c0_5)] 32 (0, 0))) ∧ Aside0 (Below w.heap.size w wc))
   case first =>
    have H := HC8.out
    clear HC8
    by_cases c11 : (bt t785 1) = 114
    ·rw [if_pos c11] at H
     have c11b0 : ((bt t785 1) == 114) = true := beq_iff_eq.mpr c11
     have c11b1 : ((bt t785 1) != 114) = false := bne_eq_false_iff_eq.mpr c11
     clear c11
     (first | rw [c11b0] | (simp only [i64_w]; rw [c11b0]) | skip)
     by_cases c12 : ([] : List Int).length < 17592186044416
     ·rw [if_pos c12] at H
      have LMc12 := Aside0.mk c12
      clear c12
      obtain ⟨y786, hy786⟩ : ∃ y_ : List Int, y_ = (([] : List Int) ++ [a0_2]) := ⟨_, rfl⟩
      replace H : (ir_Uses.j0 k y786 t785 a0_0 a0_1 a0_2 a0_3 a0_4 l0_5) = some r := by first | (rw [hy786]; with_reducible exact H) | (have H2_ := (Option.bind_some _ _).symm.trans H; rw [hy786]; with_reducible exact H2_) | (have H2_ := (Option.bind_some _ _).symm.trans H; with_reducible exact H2_) | with_reducible exact H | (rw [hy786]; exact H) | exact H
      have Ny786 := Aside0.mk hy786
      clear hy786
      have H' := Aside0.mk H
      clear H
      have hcz13_0 : w9.cell? ⟨gb784, 0, none⟩ = some (.int .i64 a0_0) := (bC BK784.out 0).trans rfl
      have hcz13_1 : w9.cell? ⟨gb784, 1, none⟩ = some (.int .i64 a0_1) := (bC BK784.out 1).trans rfl
      have hcz13_2 : w9.cell? ⟨gb784, 2, none⟩ = some (.int .i64 a0_2) := (bC BK784.out 2).trans rfl
      have hcz13_3 : w9.cell? ⟨gb784, 3, none⟩ = some (.int .i64 a0_3) := (bC BK784.out 3).trans rfl
      have hcz13_4 : w9.cell? ⟨gb784, 4, none⟩ = some (.string a0_4) := (bC BK784.out 4).trans rfl
      have hcz13_5 : w9.cell? ⟨gb784, 5, none⟩ = some (.slice A0_5 l0_5.length c0_5) := (bC BK784.out 5).trans rfl
      have hfz13_0 := bZ BK784.out 0
      have hfz13_1 := bZ BK784.out 1
      have hfz13_2 := bZ BK784.out 2
      have hfz13_3 := bZ BK784.out 3
      have hfz13_4 := bZ BK784.out 4
      have hfz13_5 := bZ BK784.out 5
      go_wp2_with (first | ((with_reducible refine gate_builtin (b := .append) (xs := #[.tmp 13, .tmp 16]) rfl ?_); at_builtin; refine Kd.R_append (Kd.int .i64) (w0 := w) w.heap.size rfl (.tmp 13) (.tmp 16) 26 3 (.int .i64 0) 8 rfl Tryd.underlying26 info3 rfl (by decide) (by omega) (.slice none 0 0) ([] : List Int) a0_2 [.int .i64 a0_2] (fun _ => True) (fun _ => False) rfl rfl ?aP (fun _ hk => hk.elim) ?aF ?aO ?aB ?aS ?aL ?_; (case aP => exact rfl); (case aB => exact (by repeat (first | (with_reducible first | exact HB.out | apply bA | apply bN | apply bD | refine bS ?_ GE784.out) | exact HB.out))); (case aF => exact (fun _ _ => trivial)); (case aO => exact ((Kd.R_nil _ _ _ _ (fun _ => True)))); (case aS => exact (below_size (by repeat (first | (with_reducible first | exact HB.out | apply bA | apply bN | apply bD | refine bS ?_ GE784.out) | exact HB.out)))); (case aL => have := LMc12.out; omega); intro v787 w14 ho hb hg hat; rw [← Ny786.out] at ho; have n0_ := Aside0.mk (blk_grown (g := gb784) (o := .cells #[.int .i64 a0_0, .int .i64 a0_1, .int .i64 a0_2, .int .i64 a0_3, .string a0_4, .slice A0_5 l0_5.length c0_5] 32 (0, 0)) (by (with_reducible repeat (first | refine kN ?_ _ | refine blk_drew ?_ | refine kA ?_ _)); exact BK784.out) hg (by simp [Value.ownBlock])); have n1_ := Aside0.mk (hb); have n2_ := Aside0.mk (ho); clear BK784; clear HB; have BK784 := n0_; have HB := n1_; have HO788 := n2_; clear n0_ n1_ n2_; clear ho hb hg hat))
      go_meet
      case rel => exact ⟨_, (y786), H', ⟨by first | omega | exact Nat.le_refl _⟩, ⟨by (with_reducible repeat (first | apply Kd.R_alloc | apply Kd.R_drewN | apply Kd.R_drew)); exact HO788.out⟩, ⟨by (with_reducible repeat (first | refine kN ?_ _ | refine blk_drew ?_ | refine kA ?_ _)); exact BK784.out⟩, ⟨by repeat (first | (with_reducible first | exact HB.out | apply bA | apply bN | apply bD | refine bS ?_ GE784.out) | exact HB.out)⟩⟩
     ·rw [if_neg c12] at H
      exact absurd H (by simp)
    ·rw [if_neg c11] at H
     have c11b0 : ((bt t785 1) == 114) = false := beq_eq_false_iff_ne.mpr c11
     have c11b1 : ((bt t785 1) != 114) = true := bne_iff_ne.mpr c11
     (first | rw [c11b0] | (simp only [i64_w]; rw [c11b0]) | skip)
     have H' := Aside0.mk H
     clear H
     go_wp2
     go_meet
     case rel => exact ⟨_, (([] : List Int)), H', ⟨by first | omega | exact Nat.le_refl _⟩, ⟨by first | exact Kd.R_nil _ _ _ _ _ | exact Kd.N_nil _ _ _ _ _ | exact Kd.V_nil _ _ _ _ _ | exact Kd.Q_nil _ _ _ _ _ | exact Kd.S_nil _ _ _ _ _⟩, ⟨by (with_reducible repeat (first | refine kN ?_ _ | refine blk_drew ?_ | refine kA ?_ _)); exact BK784.out⟩, ⟨by repeat (first | (with_reducible first | exact HB.out | apply bA | apply bN | apply bD | refine bS ?_ GE784.out) | exact HB.out)⟩⟩
   case rest =>
    clear HC8
    try clear c1
    try clear p2
    try clear c3
    try clear c3b0
    try clear c3b1
    try clear c6
    try clear c6b0
    try clear c6b1
    try clear p7
    try clear q7
    try clear hx7
    try clear qi7
    try clear c9
    try clear c10
    try clear c11
    try clear c11b0
    try clear c11b1
    try clear c12
    try clear hcz10_0
    try clear hcz10_1
    try clear hcz10_2
    try clear hcz10_3
    try clear hcz10_4
    try clear hcz10_5
    try clear hcz13_0
    try clear hcz13_1
    try clear hcz13_2
    try clear hcz13_3
    try clear hcz13_4
    try clear hcz13_5
    try clear hcz5_0
    try clear hcz5_1
    try clear hcz5_2
    try clear hcz5_3
    try clear hcz5_4
    try clear hcz5_5
    try clear hfz10_0
    try clear hfz10_1
    try clear hfz10_2
    try clear hfz10_3
    try clear hfz10_4
    try clear hfz10_5
    try clear hfz13_0
    try clear hfz13_1
    try clear hfz13_2
    try clear hfz13_3
    try clear hfz13_4
    try clear hfz13_5
    try clear hfz5_0
    try clear hfz5_1
    try clear hfz5_2
    try clear hfz5_3
    try clear hfz5_4
    try clear hfz5_5
    try clear p7
    try clear q7
    obtain ⟨kq, x3_7, HA, HJ7, HO_3, BK784, HB⟩ := hcut
    cases kq with
    | zero => exact absurd HA.out (by simp [ir_Uses.j0])
    | succ kj7 =>
     have H := HA.out
     clear HA
     simp only [ir_Uses.j0] at H
     by_cases c15 : 2 < (t785.size : Int)
     ·rw [if_pos c15] at H
      have c15b0 : decide (2 < (t785.size : Int)) = true := decide_eq_true c15
      have c15b1 : decide (2 < t785.size) = true := decide_eq_true (by omega)
      clear c15
      by_cases c17 : (bt t785 2) = 114
      ·rw [if_pos c17] at H
       have c17b0 : ((bt t785 2) == 114) = true := beq_iff_eq.mpr c17
       have c17b1 : ((bt t785 2) != 114) = false := bne_eq_false_iff_eq.mpr c17
       clear c17
       by_cases c18 : x3_7.length < 17592186044416
       ·rw [if_pos c18] at H
        have LMc18 := Aside0.mk c18
        clear c18
        obtain ⟨y789, hy789⟩ : ∃ y_ : List Int, y_ = (x3_7 ++ [a0_3]) := ⟨_, rfl⟩
        replace H : (if a0_0 = 11 then (if y789.length + l0_5.length < 17592186044416 then (some (y789 ++ l0_5)) else (none)) else (some y789)) = some r := by first | (rw [hy789]; with_reducible exact H) | (have H2_ := (Option.bind_some _ _).symm.trans H; rw [hy789]; with_reducible exact H2_) | (have H2_ := (Option.bind_some _ _).symm.trans H; with_reducible exact H2_) | with_reducible exact H | (rw [hy789]; exact H) | exact H
        have Ny789 := Aside0.mk hy789
        clear hy789
        by_cases c19 : a0_0 = 11
        ·rw [if_pos c19] at H
         have c19b0 : (a0_0 == 11) = true := beq_iff_eq.mpr c19
         have c19b1 : (a0_0 != 11) = false := bne_eq_false_iff_eq.mpr c19
         clear c19
         by_cases c20 : y789.length + l0_5.length < 17592186044416
         ·rw [if_pos c20] at H
          have LMc20 := Aside0.mk c20
          clear c20
          obtain ⟨y792, hy792⟩ : ∃ y_ : List Int, y_ = (y789 ++ l0_5) := ⟨_, rfl⟩
          replace H : (some y792) = some r := by first | (rw [hy792]; with_reducible exact H) | (have H2_ := (Option.bind_some _ _).symm.trans H; rw [hy792]; with_reducible exact H2_) | (have H2_ := (Option.bind_some _ _).symm.trans H; with_reducible exact H2_) | with_reducible exact H | (rw [hy792]; exact H) | exact H
          have Ny792 := Aside0.mk hy792
          clear hy792
          obtain rfl := Option.some.inj H
          have p16 : 0 ≤ (2 : Int) := (by omega)
          have q16 : 2 < t785.size := (by have : (2 : Int) < (t785.size : Int) := oD (by first | (with_reducible assumption) | assumption); omega)
          have hx16 : ∀ h : 2 < t785.size, ((t785[2]'h).toNat : Int) = bt t785 2 := bt_at t785 2
          clear p16
          have qi16 : (2 < (t785.size : Int)) = True := eq_true (oD (by first | (with_reducible assumption) | assumption))
          replace q16 := eq_true q16
          have hcz21_0 : wc.cell? ⟨gb784, 0, none⟩ = some (.int .i64 a0_0) := (bC BK784.out 0).trans rfl
          have hcz21_1 : wc.cell? ⟨gb784, 1, none⟩ = some (.int .i64 a0_1) := (bC BK784.out 1).trans rfl
          have hcz21_2 : wc.cell? ⟨gb784, 2, none⟩ = some (.int .i64 a0_2) := (bC BK784.out 2).trans rfl
          have hcz21_3 : wc.cell? ⟨gb784, 3, none⟩ = some (.int .i64 a0_3) := (bC BK784.out 3).trans rfl
          have hcz21_4 : wc.cell? ⟨gb784, 4, none⟩ = some (.string a0_4) := (bC BK784.out 4).trans rfl
          have hcz21_5 : wc.cell? ⟨gb784, 5, none⟩ = some (.slice A0_5 l0_5.length c0_5) := (bC BK784.out 5).trans rfl
          have hfz21_0 := bZ BK784.out 0
          have hfz21_1 := bZ BK784.out 1
          have hfz21_2 := bZ BK784.out 2
          have hfz21_3 := bZ BK784.out 3
          have hfz21_4 := bZ BK784.out 4
          have hfz21_5 := bZ BK784.out 5
          go_wp2_with (first | ((with_reducible refine gate_builtin (b := .append) (xs := #[.tmp 21, .tmp 24]) rfl ?_); at_builtin; refine Kd.R_append (Kd.int .i64) (w0 := w) w.heap.size rfl (.tmp 21) (.tmp 24) 26 3 (.int .i64 0) 8 rfl Tryd.underlying26 info3 rfl (by decide) (by omega) u3 x3_7 a0_3 [.int .i64 a0_3] (fun _ => True) (fun _ => False) rfl rfl ?aP (fun _ hk => hk.elim) ?aF ?aO ?aB ?aS ?aL ?_; (case aP => exact rfl); (case aB => exact (by repeat (first | (with_reducible first | exact HB.out | apply bA | apply bN | apply bD | refine bS ?_ GE784.out) | exact HB.out))); (case aF => exact (fun _ _ => trivial)); (case aO => exact (by (with_reducible repeat (first | apply Kd.R_alloc | apply Kd.R_drewN | apply Kd.R_drew)); exact HO_3.out)); (case aS => exact (below_size (by repeat (first | (with_reducible first | exact HB.out | apply bA | apply bN | apply bD | refine bS ?_ GE784.out) | exact HB.out)))); (case aL => have := LMc18.out; omega); intro v790 w22 ho hb hg hat; rw [← Ny789.out] at ho; have n0_ := Aside0.mk (blk_grown (g := gb784) (o := .cells #[.int .i64 a0_0, .int .i64 a0_1, .int .i64 a0_2, .int .i64 a0_3, .string a0_4, .slice A0_5 l0_5.length c0_5] 32 (0, 0)) (by (with_reducible repeat (first | refine kN ?_ _ | refine blk_drew ?_ | refine kA ?_ _)); exact BK784.out) hg (Kd.R_ne HO_3.out BK784.out (by decide))); have n1_ := Aside0.mk (hb); have n2_ := Aside0.mk (ho); clear BK784; clear HB; clear HO_3; have BK784 := n0_; have HB := n1_; have HO791 := n2_; clear n0_ n1_ n2_; clear ho hb hg hat; have hcz23_0 : w22.cell? ⟨gb784, 0, none⟩ = some (.int .i64 a0_0) := (bC BK784.out 0).trans rfl; have hcz23_1 : w22.cell? ⟨gb784, 1, none⟩ = some (.int .i64 a0_1) := (bC BK784.out 1).trans rfl; have hcz23_2 : w22.cell? ⟨gb784, 2, none⟩ = some (.int .i64 a0_2) := (bC BK784.out 2).trans rfl; have hcz23_3 : w22.cell? ⟨gb784, 3, none⟩ = some (.int .i64 a0_3) := (bC BK784.out 3).trans rfl; have hcz23_4 : w22.cell? ⟨gb784, 4, none⟩ = some (.string a0_4) := (bC BK784.out 4).trans rfl; have hcz23_5 : w22.cell? ⟨gb784, 5, none⟩ = some (.slice A0_5 l0_5.length c0_5) := (bC BK784.out 5).trans rfl; have hfz23_0 := bZ BK784.out 0; have hfz23_1 := bZ BK784.out 1; have hfz23_2 := bZ BK784.out 2; have hfz23_3 := bZ BK784.out 3; have hfz23_4 := bZ BK784.out 4; have hfz23_5 := bZ BK784.out 5) | ((with_reducible refine gate_builtin (b := .append) (xs := #[.tmp 29, .tmp 31]) rfl ?_); at_builtin; refine Kd.R_append_rows (Kd.int .i64) (w0 := w) w.heap.size rfl (.tmp 29) (.tmp 31) 26 3 (.int .i64 0) 8 rfl Tryd.underlying26 info3 rfl (by decide) (by omega) v790 y789 l0_5 _ _ _ (fun _ => True) (fun _ => False) rfl rfl ?aO ?aR (fun _ _ h => h) (fun _ h => h.elim) ?aF ?aB ?aS ?aL ?_; (case aR => repeat (first | exact (Kd.C_below HR0_5.out HB.out) | (with_reducible refine Kd.C_alloc ?_ _) | (with_reducible refine Kd.C_drewN ?_ _) | (with_reducible refine Kd.C_drew ?_))); (case aB => exact (by repeat (first | (with_reducible first | exact HB.out | apply bA | apply bN | apply bD | refine bS ?_ GE784.out) | exact HB.out))); (case aF => exact (fun _ _ => trivial)); (case aO => exact (by (with_reducible repeat (first | apply Kd.R_alloc | apply Kd.R_drewN | apply Kd.R_drew)); exact HO791.out)); (case aS => exact (below_size (by repeat (first | (with_reducible first | exact HB.out | apply bA | apply bN | apply bD | refine bS ?_ GE784.out) | exact HB.out)))); (case aL => have := LMc20.out; omega); intro v793 w24 ho hb hg hat; rw [← Ny792.out] at ho; have n0_ := Aside0.mk (blk_grown (g := gb784) (o := .cells #[.int .i64 a0_0, .int .i64 a0_1, .int .i64 a0_2, .int .i64 a0_3, .string a0_4, .slice A0_5 l0_5.length c0_5] 32 (0, 0)) (by (with_reducible repeat (first | refine kN ?_ _ | refine blk_drew ?_ | refine kA ?_ _)); exact BK784.out) hg (Kd.R_ne HO791.out BK784.out (by decide))); have n1_ := Aside0.mk (hb); have n2_ := Aside0.mk (ho); clear BK784; clear HB; clear HO791; have BK784 := n0_; have HB := n1_; have HO794 := n2_; clear n0_ n1_ n2_; clear ho hb hg hat))
          go_ret
          exact ⟨_, by first | rfl | (simp [errW_none, errW_some] <;> rfl) | (simp [*, errW_none, errW_some] <;> rfl), by (with_reducible repeat (first | apply Kd.R_alloc | apply Kd.R_drewN | apply Kd.R_drew)); exact HO794.out, by repeat (first | (with_reducible first | exact HB.out | apply bA | apply bN | apply bD | refine bS ?_ GE784.out) | exact HB.out)⟩
         ·rw [if_neg c20] at H
          exact absurd H (by simp)
        ·rw [if_neg c19] at H
         have c19b0 : (a0_0 == 11) = false := beq_eq_false_iff_ne.mpr c19
         have c19b1 : (a0_0 != 11) = true := bne_iff_ne.mpr c19
         obtain rfl := Option.some.inj H
         have p16 : 0 ≤ (2 : Int) := (by omega)
         have q16 : 2 < t785.size := (by have : (2 : Int) < (t785.size : Int) := oD (by first | (with_reducible assumption) | assumption); omega)
         have hx16 : ∀ h : 2 < t785.size, ((t785[2]'h).toNat : Int) = bt t785 2 := bt_at t785 2
         clear p16
         have qi16 : (2 < (t785.size : Int)) = True := eq_true (oD (by first | (with_reducible assumption) | assumption))
         replace q16 := eq_true q16
         have hcz25_0 : wc.cell? ⟨gb784, 0, none⟩ = some (.int .i64 a0_0) := (bC BK784.out 0).trans rfl
         have hcz25_1 : wc.cell? ⟨gb784, 1, none⟩ = some (.int .i64 a0_1) := (bC BK784.out 1).trans rfl
         have hcz25_2 : wc.cell? ⟨gb784, 2, none⟩ = some (.int .i64 a0_2) := (bC BK784.out 2).trans rfl
         have hcz25_3 : wc.cell? ⟨gb784, 3, none⟩ = some (.int .i64 a0_3) := (bC BK784.out 3).trans rfl
         have hcz25_4 : wc.cell? ⟨gb784, 4, none⟩ = some (.string a0_4) := (bC BK784.out 4).trans rfl
         have hcz25_5 : wc.cell? ⟨gb784, 5, none⟩ = some (.slice A0_5 l0_5.length c0_5) := (bC BK784.out 5).trans rfl
         have hfz25_0 := bZ BK784.out 0
         have hfz25_1 := bZ BK784.out 1
         have hfz25_2 := bZ BK784.out 2
         have hfz25_3 := bZ BK784.out 3
         have hfz25_4 := bZ BK784.out 4
         have hfz25_5 := bZ BK784.out 5
         go_wp2_with (first | ((with_reducible refine gate_builtin (b := .append) (xs := #[.tmp 21, .tmp 24]) rfl ?_); at_builtin; refine Kd.R_append (Kd.int .i64) (w0 := w) w.heap.size rfl (.tmp 21) (.tmp 24) 26 3 (.int .i64 0) 8 rfl Tryd.underlying26 info3 rfl (by decide) (by omega) u3 x3_7 a0_3 [.int .i64 a0_3] (fun _ => True) (fun _ => False) rfl rfl ?aP (fun _ hk => hk.elim) ?aF ?aO ?aB ?aS ?aL ?_; (case aP => exact rfl); (case aB => exact (by repeat (first | (with_reducible first | exact HB.out | apply bA | apply bN | apply bD | refine bS ?_ GE784.out) | exact HB.out))); (case aF => exact (fun _ _ => trivial)); (case aO => exact (by (with_reducible repeat (first | apply Kd.R_alloc | apply Kd.R_drewN | apply Kd.R_drew)); exact HO_3.out)); (case aS => exact (below_size (by repeat (first | (with_reducible first | exact HB.out | apply bA | apply bN | apply bD | refine bS ?_ GE784.out) | exact HB.out)))); (case aL => have := LMc18.out; omega); intro v790 w26 ho hb hg hat; rw [← Ny789.out] at ho; have n0_ := Aside0.mk (blk_grown (g := gb784) (o := .cells #[.int .i64 a0_0, .int .i64 a0_1, .int .i64 a0_2, .int .i64 a0_3, .string a0_4, .slice A0_5 l0_5.length c0_5] 32 (0, 0)) (by (with_reducible repeat (first | refine kN ?_ _ | refine blk_drew ?_ | refine kA ?_ _)); exact BK784.out) hg (Kd.R_ne HO_3.out BK784.out (by decide))); have n1_ := Aside0.mk (hb); have n2_ := Aside0.mk (ho); clear BK784; clear HB; clear HO_3; have BK784 := n0_; have HB := n1_; have HO791 := n2_; clear n0_ n1_ n2_; clear ho hb hg hat; have hcz27_0 : w26.cell? ⟨gb784, 0, none⟩ = some (.int .i64 a0_0) := (bC BK784.out 0).trans rfl; have hcz27_1 : w26.cell? ⟨gb784, 1, none⟩ = some (.int .i64 a0_1) := (bC BK784.out 1).trans rfl; have hcz27_2 : w26.cell? ⟨gb784, 2, none⟩ = some (.int .i64 a0_2) := (bC BK784.out 2).trans rfl; have hcz27_3 : w26.cell? ⟨gb784, 3, none⟩ = some (.int .i64 a0_3) := (bC BK784.out 3).trans rfl; have hcz27_4 : w26.cell? ⟨gb784, 4, none⟩ = some (.string a0_4) := (bC BK784.out 4).trans rfl; have hcz27_5 : w26.cell? ⟨gb784, 5, none⟩ = some (.slice A0_5 l0_5.length c0_5) := (bC BK784.out 5).trans rfl; have hfz27_0 := bZ BK784.out 0; have hfz27_1 := bZ BK784.out 1; have hfz27_2 := bZ BK784.out 2; have hfz27_3 := bZ BK784.out 3; have hfz27_4 := bZ BK784.out 4; have hfz27_5 := bZ BK784.out 5))
         go_ret
         exact ⟨_, by first | rfl | (simp [errW_none, errW_some] <;> rfl) | (simp [*, errW_none, errW_some] <;> rfl), by (with_reducible repeat (first | apply Kd.R_alloc | apply Kd.R_drewN | apply Kd.R_drew)); exact HO791.out, by repeat (first | (with_reducible first | exact HB.out | apply bA | apply bN | apply bD | refine bS ?_ GE784.out) | exact HB.out)⟩
       ·rw [if_neg c18] at H
        exact absurd H (by simp)
      ·rw [if_neg c17] at H
       have c17b0 : ((bt t785 2) == 114) = false := beq_eq_false_iff_ne.mpr c17
       have c17b1 : ((bt t785 2) != 114) = true := bne_iff_ne.mpr c17
       by_cases c28 : a0_0 = 11
       ·rw [if_pos c28] at H
        have c28b0 : (a0_0 == 11) = true := beq_iff_eq.mpr c28
        have c28b1 : (a0_0 != 11) = false := bne_eq_false_iff_eq.mpr c28
        clear c28
        by_cases c29 : x3_7.length + l0_5.length < 17592186044416
        ·rw [if_pos c29] at H
         have LMc29 := Aside0.mk c29
         clear c29
         obtain ⟨y795, hy795⟩ : ∃ y_ : List Int, y_ = (x3_7 ++ l0_5) := ⟨_, rfl⟩
         replace H : (some y795) = some r := by first | (rw [hy795]; with_reducible exact H) | (have H2_ := (Option.bind_some _ _).symm.trans H; rw [hy795]; with_reducible exact H2_) | (have H2_ := (Option.bind_some _ _).symm.trans H; with_reducible exact H2_) | with_reducible exact H | (rw [hy795]; exact H) | exact H
         have Ny795 := Aside0.mk hy795
         clear hy795
         obtain rfl := Option.some.inj H
         have p16 : 0 ≤ (2 : Int) := (by omega)
         have q16 : 2 < t785.size := (by have : (2 : Int) < (t785.size : Int) := oD (by first | (with_reducible assumption) | assumption); omega)
         have hx16 : ∀ h : 2 < t785.size, ((t785[2]'h).toNat : Int) = bt t785 2 := bt_at t785 2
         clear p16
         have qi16 : (2 < (t785.size : Int)) = True := eq_true (oD (by first | (with_reducible assumption) | assumption))
         replace q16 := eq_true q16
         have hcz30_0 : wc.cell? ⟨gb784, 0, none⟩ = some (.int .i64 a0_0) := (bC BK784.out 0).trans rfl
         have hcz30_1 : wc.cell? ⟨gb784, 1, none⟩ = some (.int .i64 a0_1) := (bC BK784.out 1).trans rfl
         have hcz30_2 : wc.cell? ⟨gb784, 2, none⟩ = some (.int .i64 a0_2) := (bC BK784.out 2).trans rfl
         have hcz30_3 : wc.cell? ⟨gb784, 3, none⟩ = some (.int .i64 a0_3) := (bC BK784.out 3).trans rfl
         have hcz30_4 : wc.cell? ⟨gb784, 4, none⟩ = some (.string a0_4) := (bC BK784.out 4).trans rfl
         have hcz30_5 : wc.cell? ⟨gb784, 5, none⟩ = some (.slice A0_5 l0_5.length c0_5) := (bC BK784.out 5).trans rfl
         have hfz30_0 := bZ BK784.out 0
         have hfz30_1 := bZ BK784.out 1
         have hfz30_2 := bZ BK784.out 2
         have hfz30_3 := bZ BK784.out 3
         have hfz30_4 := bZ BK784.out 4
         have hfz30_5 := bZ BK784.out 5
         go_wp2_with (first | ((with_reducible refine gate_builtin (b := .append) (xs := #[.tmp 29, .tmp 31]) rfl ?_); at_builtin; refine Kd.R_append_rows (Kd.int .i64) (w0 := w) w.heap.size rfl (.tmp 29) (.tmp 31) 26 3 (.int .i64 0) 8 rfl Tryd.underlying26 info3 rfl (by decide) (by omega) u3 x3_7 l0_5 _ _ _ (fun _ => True) (fun _ => False) rfl rfl ?aO ?aR (fun _ _ h => h) (fun _ h => h.elim) ?aF ?aB ?aS ?aL ?_; (case aR => repeat (first | exact (Kd.C_below HR0_5.out HB.out) | (with_reducible refine Kd.C_alloc ?_ _) | (with_reducible refine Kd.C_drewN ?_ _) | (with_reducible refine Kd.C_drew ?_))); (case aB => exact (by repeat (first | (with_reducible first | exact HB.out | apply bA | apply bN | apply bD | refine bS ?_ GE784.out) | exact HB.out))); (case aF => exact (fun _ _ => trivial)); (case aO => exact (by (with_reducible repeat (first | apply Kd.R_alloc | apply Kd.R_drewN | apply Kd.R_drew)); exact HO_3.out)); (case aS => exact (below_size (by repeat (first | (with_reducible first | exact HB.out | apply bA | apply bN | apply bD | refine bS ?_ GE784.out) | exact HB.out)))); (case aL => have := LMc29.out; omega); intro v796 w31 ho hb hg hat; rw [← Ny795.out] at ho; have n0_ := Aside0.mk (blk_grown (g := gb784) (o := .cells #[.int .i64 a0_0, .int .i64 a0_1, .int .i64 a0_2, .int .i64 a0_3, .string a0_4, .slice A0_5 l0_5.length c0_5] 32 (0, 0)) (by (with_reducible repeat (first | refine kN ?_ _ | refine blk_drew ?_ | refine kA ?_ _)); exact BK784.out) hg (Kd.R_ne HO_3.out BK784.out (by decide))); have n1_ := Aside0.mk (hb); have n2_ := Aside0.mk (ho); clear BK784; clear HB; clear HO_3; have BK784 := n0_; have HB := n1_; have HO797 := n2_; clear n0_ n1_ n2_; clear ho hb hg hat))
         go_ret
         exact ⟨_, by first | rfl | (simp [errW_none, errW_some] <;> rfl) | (simp [*, errW_none, errW_some] <;> rfl), by (with_reducible repeat (first | apply Kd.R_alloc | apply Kd.R_drewN | apply Kd.R_drew)); exact HO797.out, by repeat (first | (with_reducible first | exact HB.out | apply bA | apply bN | apply bD | refine bS ?_ GE784.out) | exact HB.out)⟩
        ·rw [if_neg c29] at H
         exact absurd H (by simp)
       ·rw [if_neg c28] at H
        have c28b0 : (a0_0 == 11) = false := beq_eq_false_iff_ne.mpr c28
        have c28b1 : (a0_0 != 11) = true := bne_iff_ne.mpr c28
        obtain rfl := Option.some.inj H
        have p16 : 0 ≤ (2 : Int) := (by omega)
        have q16 : 2 < t785.size := (by have : (2 : Int) < (t785.size : Int) := oD (by first | (with_reducible assumption) | assumption); omega)
        have hx16 : ∀ h : 2 < t785.size, ((t785[2]'h).toNat : Int) = bt t785 2 := bt_at t785 2
        clear p16
        have qi16 : (2 < (t785.size : Int)) = True := eq_true (oD (by first | (with_reducible assumption) | assumption))
        replace q16 := eq_true q16
        have hcz32_0 : wc.cell? ⟨gb784, 0, none⟩ = some (.int .i64 a0_0) := (bC BK784.out 0).trans rfl
        have hcz32_1 : wc.cell? ⟨gb784, 1, none⟩ = some (.int .i64 a0_1) := (bC BK784.out 1).trans rfl
        have hcz32_2 : wc.cell? ⟨gb784, 2, none⟩ = some (.int .i64 a0_2) := (bC BK784.out 2).trans rfl
        have hcz32_3 : wc.cell? ⟨gb784, 3, none⟩ = some (.int .i64 a0_3) := (bC BK784.out 3).trans rfl
        have hcz32_4 : wc.cell? ⟨gb784, 4, none⟩ = some (.string a0_4) := (bC BK784.out 4).trans rfl
        have hcz32_5 : wc.cell? ⟨gb784, 5, none⟩ = some (.slice A0_5 l0_5.length c0_5) := (bC BK784.out 5).trans rfl
        have hfz32_0 := bZ BK784.out 0
        have hfz32_1 := bZ BK784.out 1
        have hfz32_2 := bZ BK784.out 2
        have hfz32_3 := bZ BK784.out 3
        have hfz32_4 := bZ BK784.out 4
        have hfz32_5 := bZ BK784.out 5
        go_wp2
        go_ret
        exact ⟨_, by first | rfl | (simp [errW_none, errW_some] <;> rfl) | (simp [*, errW_none, errW_some] <;> rfl), by (with_reducible repeat (first | apply Kd.R_alloc | apply Kd.R_drewN | apply Kd.R_drew)); exact HO_3.out, by repeat (first | (with_reducible first | exact HB.out | apply bA | apply bN | apply bD | refine bS ?_ GE784.out) | exact HB.out)⟩
     ·rw [if_neg c15] at H
      exact absurd H (by simp)
  ·rw [if_neg c6] at H
   exact absurd H (by simp)
end Go.Proofs.YtoilapjkgligfaaDoor.P
namespace Go.Proofs.YtoilapjkgligfaaDoor.P
set_option linter.unusedVariables false
open Go.RowKit Go.Proofs.YtoilapjkgligfaaDoorW.PrintWords Go.Proofs.YtoilapjkgligfaaDoorW.PrintLast Go.Proofs.YtoilapjkgligfaaDoorW.PrintMore

def live_through.f (k : Nat) (a0_0 a0_1 a0_2 a0_3 : Int) (a0_4 : ByteArray) (l0_5 : List Int) (a1 : Int) : Option Int :=
  (ir_Def.f a0_0 a0_1 a0_2 a0_3 a0_4 l0_5).bind fun d => (if 0 ≤ d then live_set_without.f a1 d else some a1).bind fun s => (ir_Uses.f k a0_0 a0_1 a0_2 a0_3 a0_4 l0_5).bind fun u => eachWith u s

set_option maxHeartbeats 1000000 in
set_option maxRecDepth 100000 in
theorem live_through.calls (k : Nat) (a0_0 a0_1 a0_2 a0_3 : Int) (a0_4 : ByteArray) (A0_5 : Option Addr) (c0_5 : Nat) (l0_5 : List Int) (a1 : Int) (r : Int) (w : World) (hGS : GS w) (hr0_5 : Kd.C (Kd.int .i64) w A0_5 l0_5.length l0_5) (hc0_5 : l0_5.length ≤ c0_5) (h : live_through.f k a0_0 a0_1 a0_2 a0_3 a0_4 l0_5 a1 = some r) :
    Calls Tryd.prog 112 #[.agg #[.int .i64 a0_0, .int .i64 a0_1, .int .i64 a0_2, .int .i64 a0_3, .string a0_4, .slice A0_5 l0_5.length c0_5], .int .u64 a1] w fun e w' => e = .returned (.int .u64 r) ∧ Below w.heap.size w w' := by
  have hu32 := Tryd.underlying32
  have HG := Aside0.mk hGS
  have HR := Aside0.mk hr0_5
  have HC := Aside0.mk hc0_5
  clear hGS hr0_5 hc0_5
  obtain ⟨d, hd, h⟩ := Option.bind_eq_some_iff.mp h
  obtain ⟨s, hs, h⟩ := Option.bind_eq_some_iff.mp h
  obtain ⟨u, hu, h⟩ := Option.bind_eq_some_iff.mp h
  have HD := Aside0.mk hd
  have HU := Aside0.mk hu
  have HE := Aside0.mk h
  clear hd hu h
  have BK := Aside0.mk (blk_new w (.cells #[.int .i64 a0_0, .int .i64 a0_1, .int .i64 a0_2, .int .i64 a0_3, .string a0_4, .slice A0_5 l0_5.length c0_5] 32 (0, 0)))
  have HB := Aside0.mk (below_alloc (Below.refl w.heap.size w) (.cells #[.int .i64 a0_0, .int .i64 a0_1, .int .i64 a0_2, .int .i64 a0_3, .string a0_4, .slice A0_5 l0_5.length c0_5] 32 (0, 0)))
  by_cases c : 0 ≤ d
  · rw [if_pos c] at hs
    have HS := Aside0.mk hs
    clear hs
    go_enter Tryd.func112, Tryd.ntmps112
    go_wp2_with (first
      | (go_at_call 98; refine (ir_Def.calls a0_0 a0_1 a0_2 a0_3 a0_4 _ _ l0_5 d _ (HG.out.of_below HB.out) (Kd.C_below HR.out HB.out) HC.out HD.out).mono ?_; rintro e w1 ⟨rfl, hb⟩; have BK1 := Aside0.mk (blk_below BK.out hb); have HB1 := Aside0.mk (below_step HB.out hb); clear hb BK HB; have c0 := (blk_cell BK1.out 0).trans rfl; have c1 := (blk_cell BK1.out 1).trans rfl; have c2 := (blk_cell BK1.out 2).trans rfl; have c3 := (blk_cell BK1.out 3).trans rfl; have c4 := (blk_cell BK1.out 4).trans rfl; have c5 := (blk_cell BK1.out 5).trans rfl)
      | (go_at_call 141; refine (live_set_without.calls _ _ s _ HS.out).mono ?_; rintro e w1 ⟨rfl, ⟨nd, rfl⟩⟩)
      | (go_at_call 97; refine (ir_Uses.calls k a0_0 a0_1 a0_2 a0_3 a0_4 _ _ l0_5 u _ ?side1 ?side2 HC.out HU.out).mono ?_; (case side1 => exact (HG.out.of_below (by repeat (first | exact HB1.out | apply pw_below_drewN)))); (case side2 => exact (Kd.C_below HR.out (by repeat (first | exact HB1.out | apply pw_below_drewN)))); rintro e w2 ⟨v0, rfl, hv, hb⟩; have HB2 := Aside0.mk (below_step (by repeat (first | exact HB1.out | apply pw_below_drewN)) hb); obtain ⟨A2, cc2, rfl, hl2, hr2⟩ := Kd.R_reads hv; have HR2 := Aside0.mk hr2; clear hr2 hv hb hl2)
      | (go_at_call 142; refine (live_set_each.with_calls s _ _ u r _ HR2.out HE.out).mono ?_; rintro e w3 ⟨rfl, ⟨nd3, rfl⟩⟩))
    go_ret
    exact ⟨rfl, pw_below_drewN HB2.out _⟩
  · rw [if_neg c] at hs
    obtain rfl := Option.some.inj hs
    clear hs
    go_enter Tryd.func112, Tryd.ntmps112
    go_wp2_with (first
      | (go_at_call 98; refine (ir_Def.calls a0_0 a0_1 a0_2 a0_3 a0_4 _ _ l0_5 d _ (HG.out.of_below HB.out) (Kd.C_below HR.out HB.out) HC.out HD.out).mono ?_; rintro e w1 ⟨rfl, hb⟩; have BK1 := Aside0.mk (blk_below BK.out hb); have HB1 := Aside0.mk (below_step HB.out hb); clear hb BK HB; have c0 := (blk_cell BK1.out 0).trans rfl; have c1 := (blk_cell BK1.out 1).trans rfl; have c2 := (blk_cell BK1.out 2).trans rfl; have c3 := (blk_cell BK1.out 3).trans rfl; have c4 := (blk_cell BK1.out 4).trans rfl; have c5 := (blk_cell BK1.out 5).trans rfl)
      | (go_at_call 97; refine (ir_Uses.calls k a0_0 a0_1 a0_2 a0_3 a0_4 _ _ l0_5 u _ ?side1 ?side2 HC.out HU.out).mono ?_; (case side1 => exact (HG.out.of_below (by repeat (first | exact HB1.out | apply pw_below_drewN)))); (case side2 => exact (Kd.C_below HR.out (by repeat (first | exact HB1.out | apply pw_below_drewN)))); rintro e w2 ⟨v0, rfl, hv, hb⟩; have HB2 := Aside0.mk (below_step (by repeat (first | exact HB1.out | apply pw_below_drewN)) hb); obtain ⟨A2, cc2, rfl, hl2, hr2⟩ := Kd.R_reads hv; have HR2 := Aside0.mk hr2; clear hr2 hv hb hl2)
      | (go_at_call 142; refine (live_set_each.with_calls _ _ _ u r _ HR2.out HE.out).mono ?_; rintro e w3 ⟨rfl, ⟨nd3, rfl⟩⟩))
    go_ret
    exact ⟨rfl, pw_below_drewN HB2.out _⟩
end Go.Proofs.YtoilapjkgligfaaDoor.P
namespace Go.Proofs.YtoilapjkgligfaaDoor.P
open Go.RowKit Go.Proofs.YtoilapjkgligfaaDoorW.PrintWords Go.Proofs.YtoilapjkgligfaaDoorW.PrintLast Go.Proofs.YtoilapjkgligfaaDoorW.PrintMore
attribute [local go_sem] max2_int min2_int max_two min_two max_three min_three max_four min_four 
set_option linter.unusedVariables false
set_option linter.unusedSimpArgs false
mutual
def live_ahead.l0 : Nat → List Int → Int → Int → Int → List Int → Int → Int → ByteArray → Int → Int → List (List (S32)) → Option (Int)
 | 0, _, _, _, _, _, _, _, _, _, _, _ => none
 | k + 1, x1, x2, x3, x9, x16, x17, x18, y0, y1, y2, y3 => if x18 < x17 then (if 0 ≤ x18 then (if x18 < (x16.length : Int) then (if 0 ≤ (rd x16 x18) then (if (rd x16 x18) < (x1.length : Int) then (live_ahead.l0 k x1 x2 x3 (Go.bits .or .u64 x9 (rd x1 (rd x16 x18))) x16 x17 (wrap64 (x18 + 1)) y0 y1 y2 y3) else (none)) else (none)) else (none)) else (none)) else (if 0 ≤ x2 then (if x2 < (y3.length : Int) then (live_ahead.l1 k x2 x3 x9 (wrap64 (((rd_LT32 y3 x2).length : Int) - 1)) y0 y1 y2 y3) else (none)) else (none))
def live_ahead.l1 : Nat → Int → Int → Int → Int → ByteArray → Int → Int → List (List (S32)) → Option (Int)
 | 0, _, _, _, _, _, _, _, _ => none
 | k + 1, x2, x3, x9, x12, y0, y1, y2, y3 => if x12 ≥ x3 then (if 0 ≤ x2 then (if x2 < (y3.length : Int) then (if 0 ≤ x12 then (if x12 < ((rd_LT32 y3 x2).length : Int) then ((live_through.f k ((rd_T32 (rd_LT32 y3 x2) x12).f0) ((rd_T32 (rd_LT32 y3 x2) x12).f1) ((rd_T32 (rd_LT32 y3 x2) x12).f2) ((rd_T32 (rd_LT32 y3 x2) x12).f3) ((rd_T32 (rd_LT32 y3 x2) x12).f4) ((rd_T32 (rd_LT32 y3 x2) x12).f5) x9).bind fun t619 => (live_ahead.l1 k x2 x3 t619 (wrap64 (x12 - 1)) y0 y1 y2 y3)) else (none)) else (none)) else (none)) else (none)) else (some x9)
end
def live_ahead.f (k : Nat) (a0_0 : ByteArray) (a0_1 : Int) (a0_2 : Int) (l0_3 : List (List (S32))) (l1 : List Int) (a2 : Int) (a3 : Int) : Option (Int) := (flow_Succs.f k l0_3 a2).bind fun t611 => (live_ahead.l0 k l1 a2 a3 0 t611 (t611.length : Int) 0 a0_0 a0_1 a0_2 l0_3)
set_option maxHeartbeats 8000000 in
set_option maxRecDepth 100000 in
theorem live_ahead.calls (k : Nat) (a0_0 : ByteArray) (a0_1 : Int) (a0_2 : Int) (A0_3 : Option Addr) (c0_3 : Nat) (l0_3 : List (List (S32))) (A1 : Option Addr) (c1 : Nat) (l1 : List Int) (a2 : Int) (a3 : Int) (r : Int) (w : World) (hGS : GS w) (hr0_3 : Kd.C (Kd.slice 32 k32) w A0_3 l0_3.length l0_3) (hc0_3 : l0_3.length ≤ c0_3) (hr1 : Kd.C (Kd.int .u64) w A1 l1.length l1) (hc1 : l1.length ≤ c1) (h : live_ahead.f k a0_0 a0_1 a0_2 l0_3 l1 a2 a3 = some r) :
  Calls Tryd.prog 65 #[.agg #[.string a0_0, .int .i64 a0_1, .int .i64 a0_2, .slice A0_3 l0_3.length c0_3], .slice A1 l1.length c1, .int .i64 a2, .int .i64 a3] w fun e w' => e = .returned (.int .u64 r) ∧ Below w.heap.size w w' := by
 have hu24 := Tryd.underlying24
 have hu32 := Tryd.underlying32
 have HGS := Aside0.mk hGS
 clear hGS
 have HR0_3 := Aside0.mk hr0_3
 have HC0_3 := Aside0.mk hc0_3
 clear hr0_3 hc0_3
 have HR1 := Aside0.mk hr1
 have HC1 := Aside0.mk hc1
 clear hr1 hc1
 have HB := Aside0.mk (Below.refl w.heap.size w)
 have H : ((flow_Succs.f k l0_3 a2).bind fun t611 => (live_ahead.l0 k l1 a2 a3 0 t611 (t611.length : Int) 0 a0_0 a0_1 a0_2 l0_3)) = some r := h
 clear h
 replace H := Option.bind_eq_some_iff.mp H
 obtain ⟨t611, A50, H⟩ := H
 replace H : (live_ahead.l0 k l1 a2 a3 0 t611 (t611.length : Int) 0 a0_0 a0_1 a0_2 l0_3) = some r := H
 have A5 := Aside0.mk A50
 clear A50
 have H' := Aside0.mk H
 clear H
 go_enter Tryd.func65, Tryd.ntmps65
 go_wp2_with (first | ((with_reducible refine gate_dst (N := 4) rfl ?_); refine box_event ?hg (N := 4) ?hd (cs := #[.string a0_0, .int .i64 a0_1, .int .i64 a0_2, .slice A0_3 l0_3.length c0_3]) (t := 24) ?hr ?_; (case hd => rfl); (case hg => rfl); (case hr => first | (go_simp; done) | (go_simp; rfl)); intro gb610 hg w6 hbox hb; have n0_ := Aside0.mk (below_step (by repeat (first | (with_reducible first | exact HB.out | apply bA | apply bN | apply bD) | exact HB.out)) hb); have n1_ := Aside0.mk (hbox); have n2_ := Aside0.mk ((by rw [hg]; exact (below_size (by repeat (first | (with_reducible first | exact HB.out | apply bA | apply bN | apply bD) | exact HB.out))) : w.heap.size ≤ gb610)); have n3_ := Aside0.mk ((by rw [hg]; exact (below_size (by repeat (first | (with_reducible first | exact HB.out | apply bA | apply bN | apply bD) | exact HB.out))) : w.heap.size ≤ gb610)); clear HB; have HB := n0_; have BK610 := n1_; have GW610 := n2_; have GE610 := n3_; clear n0_ n1_ n2_ n3_; clear hb hbox hg; have hcz7_0 : w6.cell? ⟨gb610, 0, none⟩ = some (.string a0_0) := (bC BK610.out 0).trans rfl; have hcz7_1 : w6.cell? ⟨gb610, 1, none⟩ = some (.int .i64 a0_1) := (bC BK610.out 1).trans rfl; have hcz7_2 : w6.cell? ⟨gb610, 2, none⟩ = some (.int .i64 a0_2) := (bC BK610.out 2).trans rfl; have hcz7_3 : w6.cell? ⟨gb610, 3, none⟩ = some (.slice A0_3 l0_3.length c0_3) := (bC BK610.out 3).trans rfl; have hfz7_0 := bZ BK610.out 0; have hfz7_1 := bZ BK610.out 1; have hfz7_2 := bZ BK610.out 2; have hfz7_3 := bZ BK610.out 3) | ((with_reducible refine gate_callee (f := 91) rfl ?_); refine goesL_ (some 16) rfl rfl Tryd.func91 (by kernel_rfl) rfl #[.slice A0_3 l0_3.length c0_3, .int .i64 a2] rfl (by (try simp only [List.map_toArray, List.map_cons, List.map_nil]); first | done | rfl | (simp only [List.length_drop, List.length_take]; rfl)) ?_; (with_reducible refine (flow_Succs.calls k _ _ l0_3 a2 t611 _ ?side1 ?side2 A5.out).mono ?_); (case side1 => repeat (first | exact (Kd.C_below HR0_3.out HB.out) | (with_reducible refine Kd.C_alloc ?_ _) | (with_reducible refine Kd.C_drewN ?_ _) | (with_reducible refine Kd.C_drew ?_))); (case side2 => exact HC0_3.out); rintro e w8 ⟨v612, rfl, ho0, hb⟩; refine ⟨_, rfl, ?_⟩; have n0_ := Aside0.mk (Kd.R_lower ho0 (below_size (by repeat (first | (with_reducible first | exact HB.out | apply bA | apply bN | apply bD | refine bS ?_ GE610.out) | exact HB.out)))); have n1_ := Aside0.mk (blk_below (g := gb610) (o := .cells #[.string a0_0, .int .i64 a0_1, .int .i64 a0_2, .slice A0_3 l0_3.length c0_3] 24 (0, 0)) (by (with_reducible repeat (first | refine kN ?_ _ | refine blk_drew ?_ | refine kA ?_ _)); exact BK610.out) hb); have n2_ := Aside0.mk (below_step (by repeat (first | (with_reducible first | exact HB.out | apply bA | apply bN | apply bD | refine bS ?_ GE610.out) | exact HB.out)) hb); clear BK610; clear HB; have HO613 := n0_; have BK610 := n1_; have HB := n2_; clear n0_ n1_ n2_; (try clear hb); (try clear hb2); (try clear hk); (try clear hi); (try clear ho0); obtain ⟨Ao9, co9, eo9⟩ := Kd.R_slice HO613.out; subst eo9))
 go_loopg [9, 18] k (fun kq v9 v18 w' => ∃ (x9_1 : Int) (x18_1 : Int), v9 = .int .u64 x9_1 ∧ v18 = .int .i64 x18_1 ∧ Aside0 (live_ahead.l0 kq l1 a2 a3 x9_1 t611 (t611.length : Int) x18_1 a0_0 a0_1 a0_2 l0_3 = some r) ∧ Aside0 (kq ≤ k) ∧ Aside0 (Kd.R (Kd.int .i64) 3 w' w.heap.size (fun _ => True) (.slice Ao9 t611.length co9) t611) ∧ Aside0 (w'.heap[gb610]? = some (.cells #[.string a0_0, .int .i64 a0_1, .int .i64 a0_2, (.slice A0_3 l0_3.length c0_3)] 24 (0, 0))) ∧ Aside0 (Below w.heap.size w w'))
 case atStart => exact ⟨(0), (0), (by first | rfl | (simp; done) | (simp [*]; done)), (by first | rfl | (simp; done) | (simp [*]; done)), H', ⟨Nat.le_refl _⟩, ⟨by (with_reducible repeat (first | apply Kd.R_alloc | apply Kd.R_drewN | apply Kd.R_drew)); exact HO613.out⟩, ⟨by (with_reducible repeat (first | refine kN ?_ _ | refine blk_drew ?_ | refine kA ?_ _)); exact BK610.out⟩, ⟨by repeat (first | (with_reducible first | exact HB.out | apply bA | apply bN | apply bD | refine bS ?_ GE610.out) | exact HB.out)⟩⟩
 case round =>
  clear H'
  try clear c1
  try clear p2
  try clear c6
  try clear c9
  try clear hcz7_0
  try clear hcz7_1
  try clear hcz7_2
  try clear hcz7_3
  try clear hfz7_0
  try clear hfz7_1
  try clear hfz7_2
  try clear hfz7_3
  obtain ⟨x9_1, x18_1, rfl, rfl, HA, HK1, HO_16, BK610, HB⟩ := hrel
  cases gk with
  | zero => exact absurd HA.out (by simp [live_ahead.l0])
  | succ k1 =>
   have H := HA.out
   clear HA
   simp only [live_ahead.l0] at H
   by_cases c10 : x18_1 < (t611.length : Int)
   ·rw [if_pos c10] at H
    have c10b0 : decide (x18_1 < (t611.length : Int)) = true := decide_eq_true c10
    clear c10
    by_cases c11 : 0 ≤ x18_1
    ·rw [if_pos c11] at H
     have c11b0 : decide (0 ≤ x18_1) = true := decide_eq_true c11
     clear c11
     by_cases c12 : x18_1 < (t611.length : Int)
     ·rw [if_pos c12] at H
      have c12b0 : decide (x18_1 < (t611.length : Int)) = true := decide_eq_true c12
      clear c12
      by_cases c13 : 0 ≤ (rd t611 x18_1)
      ·rw [if_pos c13] at H
       have c13b0 : decide (0 ≤ (rd t611 x18_1)) = true := decide_eq_true c13
       clear c13
       by_cases c14 : (rd t611 x18_1) < (l1.length : Int)
       ·rw [if_pos c14] at H
        have c14b0 : decide ((rd t611 x18_1) < (l1.length : Int)) = true := decide_eq_true c14
        clear c14
        have H' := Aside0.mk H
        clear H
        have p614 : 0 ≤ (x18_1 : Int) := oD (by first | (with_reducible assumption) | assumption)
        have q614 : x18_1 < (t611.length : Int) := oD (by first | (with_reducible assumption) | assumption)
        obtain ⟨ad614, e614, hx614_0⟩ := Kd.at_int (Kd.R_reads' HO_16.out).2.2 x18_1 p614 q614
        cases e614
        replace p614 := eq_true p614
        replace q614 := eq_true q614
        have p615 : 0 ≤ ((rd t611 x18_1) : Int) := oD (by first | (with_reducible assumption) | assumption)
        have q615 : (rd t611 x18_1) < (l1.length : Int) := oD (by first | (with_reducible assumption) | assumption)
        obtain ⟨ad615, e615, hx615_0⟩ := Kd.at_int HR1.out (rd t611 x18_1) p615 q615
        cases e615
        (try replace hx615_0 := (HB.out.cell (lC w _ hx615_0)).trans hx615_0)
        replace p615 := eq_true p615
        replace q615 := eq_true q615
        go_wp2
        go_roundg k1
        case measure => have := HK1.out; omega
        case rel => exact ⟨(Go.bits .or .u64 x9_1 (rd l1 (rd t611 x18_1))), (wrap64 (x18_1 + 1)), (by first | rfl | (simp; done) | (simp [*]; done)), (by first | rfl | (simp; done) | (simp [*]; done)), H', ⟨by have := HK1.out; omega⟩, ⟨by (with_reducible repeat (first | apply Kd.R_alloc | apply Kd.R_drewN | apply Kd.R_drew)); exact HO_16.out⟩, ⟨by (with_reducible repeat (first | refine kN ?_ _ | refine blk_drew ?_ | refine kA ?_ _)); exact BK610.out⟩, ⟨by repeat (first | (with_reducible first | exact HB.out | apply bA | apply bN | apply bD | refine bS ?_ GE610.out) | exact HB.out)⟩⟩
       ·rw [if_neg c14] at H
        exact absurd H (by simp)
      ·rw [if_neg c13] at H
       exact absurd H (by simp)
     ·rw [if_neg c12] at H
      exact absurd H (by simp)
    ·rw [if_neg c11] at H
     exact absurd H (by simp)
   ·rw [if_neg c10] at H
    have c10b0 : decide (x18_1 < (t611.length : Int)) = false := decide_eq_false c10
    clear c10
    by_cases c15 : 0 ≤ a2
    ·rw [if_pos c15] at H
     have c15b0 : decide (0 ≤ a2) = true := decide_eq_true c15
     clear c15
     by_cases c16 : a2 < (l0_3.length : Int)
     ·rw [if_pos c16] at H
      have c16b0 : decide (a2 < (l0_3.length : Int)) = true := decide_eq_true c16
      clear c16
      have H' := Aside0.mk H
      clear H
      have hcz17_0 : wr.cell? ⟨gb610, 0, none⟩ = some (.string a0_0) := (bC BK610.out 0).trans rfl
      have hcz17_1 : wr.cell? ⟨gb610, 1, none⟩ = some (.int .i64 a0_1) := (bC BK610.out 1).trans rfl
      have hcz17_2 : wr.cell? ⟨gb610, 2, none⟩ = some (.int .i64 a0_2) := (bC BK610.out 2).trans rfl
      have hcz17_3 : wr.cell? ⟨gb610, 3, none⟩ = some (.slice A0_3 l0_3.length c0_3) := (bC BK610.out 3).trans rfl
      have hfz17_0 := bZ BK610.out 0
      have hfz17_1 := bZ BK610.out 1
      have hfz17_2 := bZ BK610.out 2
      have hfz17_3 := bZ BK610.out 3
      have p616 : 0 ≤ (a2 : Int) := oD (by first | (with_reducible assumption) | assumption)
      have q616 : a2 < (l0_3.length : Int) := oD (by first | (with_reducible assumption) | assumption)
      obtain ⟨ad616, A616_0, c616_0, e616, hx616_0, hl616_0, hi616_0⟩ := at_LT32 HR0_3.out a2 p616 q616
      cases e616
      (try replace hx616_0 := (HB.out.cell (lC w _ hx616_0)).trans hx616_0)
      have HR616_0 := Aside0.mk hi616_0
      have HC616_0 := Aside0.mk hl616_0
      clear hi616_0 hl616_0
      replace p616 := eq_true p616
      replace q616 := eq_true q616
      go_wp2
      go_loopg [9, 12] k1 (fun kq v9 v12 w' => ∃ (x9_2 : Int) (x12_2 : Int), v9 = .int .u64 x9_2 ∧ v12 = .int .i64 x12_2 ∧ Aside0 (live_ahead.l1 kq a2 a3 x9_2 x12_2 a0_0 a0_1 a0_2 l0_3 = some r) ∧ Aside0 (kq ≤ k1) ∧ Aside0 (w'.heap[gb610]? = some (.cells #[.string a0_0, .int .i64 a0_1, .int .i64 a0_2, (.slice (some ad616) l0_3.length c0_3)] 24 (0, 0))) ∧ Aside0 (Below w.heap.size w w'))
      case atStart => exact ⟨(x9_1), (wrap64 (((rd_LT32 l0_3 a2).length : Int) - 1)), (by first | rfl | (simp; done) | (simp [*]; done)), (by first | rfl | (simp; done) | (simp [*]; done)), H', ⟨Nat.le_refl _⟩, ⟨by (with_reducible repeat (first | refine kN ?_ _ | refine blk_drew ?_ | refine kA ?_ _)); exact BK610.out⟩, ⟨by repeat (first | (with_reducible first | exact HB.out | apply bA | apply bN | apply bD | refine bS ?_ GE610.out) | exact HB.out)⟩⟩
      case round =>
       clear H'
       try clear c1
       try clear p2
       try clear c6
       try clear p6
       try clear q6
       try clear hx6
       try clear c9
       try clear c10
       try clear c10b0
       try clear c11
       try clear c11b0
       try clear c12
       try clear c12b0
       try clear c13
       try clear c13b0
       try clear c14
       try clear c14b0
       try clear c15
       try clear c15b0
       try clear c16
       try clear c16b0
       try clear hcz17_0
       try clear hcz17_1
       try clear hcz17_2
       try clear hcz17_3
       try clear hcz7_0
       try clear hcz7_1
       try clear hcz7_2
       try clear hcz7_3
       try clear hfz17_0
       try clear hfz17_1
       try clear hfz17_2
       try clear hfz17_3
       try clear hfz7_0
       try clear hfz7_1
       try clear hfz7_2
       try clear hfz7_3
       try clear hx614_0
       try clear hx615_0
       try clear hx616_0
       try clear p2
       try clear p614
       try clear p615
       try clear p616
       try clear q614
       try clear q615
       try clear q616
       obtain ⟨x9_2, x12_2, rfl, rfl, HA, HK2, BK610, HB⟩ := hrel
       cases gk with
       | zero => exact absurd HA.out (by simp [live_ahead.l1])
       | succ k2 =>
        have H := HA.out
        clear HA
        simp only [live_ahead.l1] at H
        by_cases c18 : x12_2 ≥ a3
        ·rw [if_pos c18] at H
         have c18b0 : decide (a3 ≤ x12_2) = true := decide_eq_true c18
         clear c18
         by_cases c19 : 0 ≤ a2
         ·rw [if_pos c19] at H
          have c19b0 : decide (0 ≤ a2) = true := decide_eq_true c19
          clear c19
          by_cases c20 : a2 < (l0_3.length : Int)
          ·rw [if_pos c20] at H
           have c20b0 : decide (a2 < (l0_3.length : Int)) = true := decide_eq_true c20
           clear c20
           by_cases c21 : 0 ≤ x12_2
           ·rw [if_pos c21] at H
            have c21b0 : decide (0 ≤ x12_2) = true := decide_eq_true c21
            clear c21
            by_cases c22 : x12_2 < ((rd_LT32 l0_3 a2).length : Int)
            ·rw [if_pos c22] at H
             have c22b0 : decide (x12_2 < ((rd_LT32 l0_3 a2).length : Int)) = true := decide_eq_true c22
             clear c22
             replace H := Option.bind_eq_some_iff.mp H
             obtain ⟨t619, A230, H⟩ := H
             replace H : (live_ahead.l1 k2 a2 a3 t619 (wrap64 (x12_2 - 1)) a0_0 a0_1 a0_2 l0_3) = some r := H
             have A23 := Aside0.mk A230
             clear A230
             have H' := Aside0.mk H
             clear H
             have hcz24_0 : wr.cell? ⟨gb610, 0, none⟩ = some (.string a0_0) := (bC BK610.out 0).trans rfl
             have hcz24_1 : wr.cell? ⟨gb610, 1, none⟩ = some (.int .i64 a0_1) := (bC BK610.out 1).trans rfl
             have hcz24_2 : wr.cell? ⟨gb610, 2, none⟩ = some (.int .i64 a0_2) := (bC BK610.out 2).trans rfl
             have hcz24_3 : wr.cell? ⟨gb610, 3, none⟩ = some (.slice (some ad616) l0_3.length c0_3) := (bC BK610.out 3).trans rfl
             have hfz24_0 := bZ BK610.out 0
             have hfz24_1 := bZ BK610.out 1
             have hfz24_2 := bZ BK610.out 2
             have hfz24_3 := bZ BK610.out 3
             have p617 : 0 ≤ (a2 : Int) := oD (by first | (with_reducible assumption) | assumption)
             have q617 : a2 < (l0_3.length : Int) := oD (by first | (with_reducible assumption) | assumption)
             obtain ⟨ad617, A617_0, c617_0, e617, hx617_0, hl617_0, hi617_0⟩ := at_LT32 HR0_3.out a2 p617 q617
             obtain rfl : ad616 = ad617 := (by injection e617)
             (try replace hx617_0 := (HB.out.cell (lC w _ hx617_0)).trans hx617_0)
             have HR617_0 := Aside0.mk hi617_0
             have HC617_0 := Aside0.mk hl617_0
             clear hi617_0 hl617_0
             replace p617 := eq_true p617
             replace q617 := eq_true q617
             have p618 : 0 ≤ (x12_2 : Int) := oD (by first | (with_reducible assumption) | assumption)
             have q618 : x12_2 < ((rd_LT32 l0_3 a2).length : Int) := oD (by first | (with_reducible assumption) | assumption)
             obtain ⟨ad618, A618_5, c618_5, e618, hx618_0, hx618_1, hx618_2, hx618_3, hx618_4, hx618_5, hl618_5, hi618_5⟩ := at_T32 HR617_0.out x12_2 p618 q618
             cases e618
             (try replace hx618_0 := (HB.out.cell (lC w _ hx618_0)).trans hx618_0)
             (try replace hx618_1 := (HB.out.cell (lC w _ hx618_1)).trans hx618_1)
             (try replace hx618_2 := (HB.out.cell (lC w _ hx618_2)).trans hx618_2)
             (try replace hx618_3 := (HB.out.cell (lC w _ hx618_3)).trans hx618_3)
             (try replace hx618_4 := (HB.out.cell (lC w _ hx618_4)).trans hx618_4)
             (try replace hx618_5 := (HB.out.cell (lC w _ hx618_5)).trans hx618_5)
             have HR618_5 := Aside0.mk hi618_5
             have HC618_5 := Aside0.mk hl618_5
             clear hi618_5 hl618_5
             replace p618 := eq_true p618
             replace q618 := eq_true q618
             go_wp2_with (first | ((with_reducible refine gate_callee (f := 112) rfl ?_); refine goesL_ (some 50) rfl rfl Tryd.func112 (by kernel_rfl) rfl #[.agg #[.int .i64 ((rd_T32 (rd_LT32 l0_3 a2) x12_2).f0), .int .i64 ((rd_T32 (rd_LT32 l0_3 a2) x12_2).f1), .int .i64 ((rd_T32 (rd_LT32 l0_3 a2) x12_2).f2), .int .i64 ((rd_T32 (rd_LT32 l0_3 a2) x12_2).f3), .string ((rd_T32 (rd_LT32 l0_3 a2) x12_2).f4), .slice A618_5 ((rd_T32 (rd_LT32 l0_3 a2) x12_2).f5).length c618_5], .int .u64 x9_2] rfl (by (try simp only [List.map_toArray, List.map_cons, List.map_nil]); first | done | rfl | (simp only [List.length_drop, List.length_take]; rfl)) ?_; (with_reducible refine (live_through.calls k2 ((rd_T32 (rd_LT32 l0_3 a2) x12_2).f0) ((rd_T32 (rd_LT32 l0_3 a2) x12_2).f1) ((rd_T32 (rd_LT32 l0_3 a2) x12_2).f2) ((rd_T32 (rd_LT32 l0_3 a2) x12_2).f3) ((rd_T32 (rd_LT32 l0_3 a2) x12_2).f4) _ _ ((rd_T32 (rd_LT32 l0_3 a2) x12_2).f5) x9_2 t619 _ ?side3 ?side1 ?side2 A23.out).mono ?_); (case side1 => repeat (first | exact (Kd.C_below HR618_5.out HB.out) | (with_reducible refine Kd.C_alloc ?_ _) | (with_reducible refine Kd.C_drewN ?_ _) | (with_reducible refine Kd.C_drew ?_))); (case side2 => exact HC618_5.out); (case side3 => first | exact GS.of_below HGS.out (by repeat (first | (with_reducible first | exact HB.out | apply bA | apply bN | apply bD | refine bS ?_ GE610.out) | exact HB.out)) | (repeat (first | exact HGS.out | apply GS.alloc | apply GS.drewN | apply GS.drew))); rintro e w25 ⟨rfl, hb⟩; refine ⟨_, rfl, ?_⟩; have n0_ := Aside0.mk (blk_below (g := gb610) (o := .cells #[.string a0_0, .int .i64 a0_1, .int .i64 a0_2, .slice (some ad616) l0_3.length c0_3] 24 (0, 0)) (by (with_reducible repeat (first | refine kN ?_ _ | refine blk_drew ?_ | refine kA ?_ _)); exact BK610.out) hb); have n1_ := Aside0.mk (below_step (by repeat (first | (with_reducible first | exact HB.out | apply bA | apply bN | apply bD | refine bS ?_ GE610.out) | exact HB.out)) hb); clear BK610; clear HB; have BK610 := n0_; have HB := n1_; clear n0_ n1_; (try clear hb); (try clear hb2); (try clear hk); (try clear hi)))
             go_roundg k2
             case measure => have := HK1.out; have := HK2.out; omega
             case rel => exact ⟨(t619), (wrap64 (x12_2 - 1)), (by first | rfl | (simp; done) | (simp [*]; done)), (by first | rfl | (simp; done) | (simp [*]; done)), H', ⟨by have := HK1.out; have := HK2.out; omega⟩, ⟨by (with_reducible repeat (first | refine kN ?_ _ | refine blk_drew ?_ | refine kA ?_ _)); exact BK610.out⟩, ⟨by repeat (first | (with_reducible first | exact HB.out | apply bA | apply bN | apply bD | refine bS ?_ GE610.out) | exact HB.out)⟩⟩
            ·rw [if_neg c22] at H
             exact absurd H (by simp)
           ·rw [if_neg c21] at H
            exact absurd H (by simp)
          ·rw [if_neg c20] at H
           exact absurd H (by simp)
         ·rw [if_neg c19] at H
          exact absurd H (by simp)
        ·rw [if_neg c18] at H
         have c18b0 : decide (a3 ≤ x12_2) = false := decide_eq_false c18
         clear c18
         obtain rfl := Option.some.inj H
         go_wp2
         go_ret
         exact ⟨by first | rfl | (simp [errW_none, errW_some] <;> rfl) | (simp [*, errW_none, errW_some] <;> rfl), by repeat (first | (with_reducible first | exact HB.out | apply bA | apply bN | apply bD | refine bS ?_ GE610.out) | exact HB.out)⟩
     ·rw [if_neg c16] at H
      exact absurd H (by simp)
    ·rw [if_neg c15] at H
     exact absurd H (by simp)
end Go.Proofs.YtoilapjkgligfaaDoor.P
namespace Go.Proofs.YtoilapjkgligfaaDoor.P
open Go.RowKit Go.Proofs.YtoilapjkgligfaaDoorW.PrintWords Go.Proofs.YtoilapjkgligfaaDoorW.PrintLast Go.Proofs.YtoilapjkgligfaaDoorW.PrintMore
attribute [local go_sem] max2_int min2_int max_two min_two max_three min_three max_four min_four 
set_option linter.unusedVariables false
set_option linter.unusedSimpArgs false
mutual
def live_sets.l0 : Nat → List Int → Bool → ByteArray → Int → Int → List (List (S32)) → Option (List Int)
 | 0, _, _, _, _, _, _ => none
 | k + 1, x3, x4, y0, y1, y2, y3 => if x4 = true then (live_sets.l1 k x3 false (wrap64 ((y3.length : Int) - 1)) y0 y1 y2 y3) else (some x3)
def live_sets.l1 : Nat → List Int → Bool → Int → ByteArray → Int → Int → List (List (S32)) → Option (List Int)
 | 0, _, _, _, _, _, _, _ => none
 | k + 1, x3, x4, x5, y0, y1, y2, y3 => if x5 ≥ 0 then ((live_ahead.f k y0 y1 y2 y3 x3 x5 0).bind fun t624 => (if x4 = true then (if 0 ≤ x5 then (if x5 < (x3.length : Int) then (live_sets.l1 k (x3.set (x5 : Int).toNat t624) true (wrap64 (x5 - 1)) y0 y1 y2 y3) else (none)) else (none)) else (if 0 ≤ x5 then (if x5 < (x3.length : Int) then (live_sets.l1 k (x3.set (x5 : Int).toNat t624) (t624 != (rd x3 x5)) (wrap64 (x5 - 1)) y0 y1 y2 y3) else (none)) else (none)))) else (live_sets.l0 k x3 x4 y0 y1 y2 y3)
end
def live_sets.f (k : Nat) (a0_0 : ByteArray) (a0_1 : Int) (a0_2 : Int) (l0_3 : List (List (S32))) : Option (List Int) := if 0 ≤ (l0_3.length : Int) then (if ((l0_3.length : Int) : Int).toNat ≤ 35184372088832 then (live_sets.l0 k (List.replicate ((l0_3.length : Int) : Int).toNat 0) true a0_0 a0_1 a0_2 l0_3) else (none)) else (none)
set_option maxHeartbeats 8000000 in
set_option maxRecDepth 100000 in
theorem live_sets.calls (k : Nat) (a0_0 : ByteArray) (a0_1 : Int) (a0_2 : Int) (A0_3 : Option Addr) (c0_3 : Nat) (l0_3 : List (List (S32))) (r : List Int) (w : World) (hGS : GS w) (hr0_3 : Kd.C (Kd.slice 32 k32) w A0_3 l0_3.length l0_3) (hc0_3 : l0_3.length ≤ c0_3) (h : live_sets.f k a0_0 a0_1 a0_2 l0_3 = some r) :
  Calls Tryd.prog 28 #[.agg #[.string a0_0, .int .i64 a0_1, .int .i64 a0_2, .slice A0_3 l0_3.length c0_3]] w fun e w' => ∃ v0_ : Value, e = .returned (v0_) ∧ Kd.R (Kd.int .u64) 63 w' w.heap.size (fun _ => True) v0_ r ∧ Below w.heap.size w w' := by
 have hu24 := Tryd.underlying24
 have HGS := Aside0.mk hGS
 clear hGS
 have HR0_3 := Aside0.mk hr0_3
 have HC0_3 := Aside0.mk hc0_3
 clear hr0_3 hc0_3
 have HB := Aside0.mk (Below.refl w.heap.size w)
 have H : (if 0 ≤ (l0_3.length : Int) then (if ((l0_3.length : Int) : Int).toNat ≤ 35184372088832 then (live_sets.l0 k (List.replicate ((l0_3.length : Int) : Int).toNat 0) true a0_0 a0_1 a0_2 l0_3) else (none)) else (none)) = some r := h
 clear h
 by_cases c2 : 0 ≤ (l0_3.length : Int)
 ·rw [if_pos c2] at H
  have c2b0 := eq_true c2
  have c2b1 : decide (0 ≤ (l0_3.length : Int)) = true := decide_eq_true c2
  clear c2
  by_cases c3 : ((l0_3.length : Int) : Int).toNat ≤ 35184372088832
  ·rw [if_pos c3] at H
   have c3b0 := eq_true c3
   have c3b1 : decide (((l0_3.length : Int) : Int).toNat ≤ 35184372088832) = true := decide_eq_true c3
   clear c3
   obtain ⟨y621, hy621⟩ : ∃ y_ : List Int, y_ = (List.replicate ((l0_3.length : Int) : Int).toNat 0) := ⟨_, rfl⟩
   replace H : (live_sets.l0 k y621 true a0_0 a0_1 a0_2 l0_3) = some r := by first | (rw [hy621]; with_reducible exact H) | (have H2_ := (Option.bind_some _ _).symm.trans H; rw [hy621]; with_reducible exact H2_) | (have H2_ := (Option.bind_some _ _).symm.trans H; with_reducible exact H2_) | with_reducible exact H | (rw [hy621]; exact H) | exact H
   have Ny621 := Aside0.mk hy621
   clear hy621
   have H' := Aside0.mk H
   clear H
   go_enter Tryd.func28, Tryd.ntmps28
   go_wp2_with (first | ((with_reducible refine gate_dst (N := 1) rfl ?_); refine box_event ?hg (N := 1) ?hd (cs := #[.string a0_0, .int .i64 a0_1, .int .i64 a0_2, .slice A0_3 l0_3.length c0_3]) (t := 24) ?hr ?_; (case hd => rfl); (case hg => rfl); (case hr => first | (go_simp; done) | (go_simp; rfl)); intro gb620 hg w4 hbox hb; have n0_ := Aside0.mk (below_step (by repeat (first | (with_reducible first | exact HB.out | apply bA | apply bN | apply bD) | exact HB.out)) hb); have n1_ := Aside0.mk (hbox); have n2_ := Aside0.mk ((by rw [hg]; exact (below_size (by repeat (first | (with_reducible first | exact HB.out | apply bA | apply bN | apply bD) | exact HB.out))) : w.heap.size ≤ gb620)); have n3_ := Aside0.mk ((by rw [hg]; exact (below_size (by repeat (first | (with_reducible first | exact HB.out | apply bA | apply bN | apply bD) | exact HB.out))) : w.heap.size ≤ gb620)); clear HB; have HB := n0_; have BK620 := n1_; have GW620 := n2_; have GE620 := n3_; clear n0_ n1_ n2_ n3_; clear hb hbox hg; have hcz5_0 : w4.cell? ⟨gb620, 0, none⟩ = some (.string a0_0) := (bC BK620.out 0).trans rfl; have hcz5_1 : w4.cell? ⟨gb620, 1, none⟩ = some (.int .i64 a0_1) := (bC BK620.out 1).trans rfl; have hcz5_2 : w4.cell? ⟨gb620, 2, none⟩ = some (.int .i64 a0_2) := (bC BK620.out 2).trans rfl; have hcz5_3 : w4.cell? ⟨gb620, 3, none⟩ = some (.slice A0_3 l0_3.length c0_3) := (bC BK620.out 3).trans rfl; have hfz5_0 := bZ BK620.out 0; have hfz5_1 := bZ BK620.out 1; have hfz5_2 := bZ BK620.out 2; have hfz5_3 := bZ BK620.out 3) | ((with_reducible refine gate_dst (N := 10) rfl ?_); refine Kd.R_make (Kd.int .u64) _ 63 rfl (N := 10) rfl 64 _ _ rfl (l0_3.length : Int) rfl rfl Tryd.underlying64 (.int .u64 0) 8 info63 rfl (by decide) (by omega) 0 (ok := fun _ => True) (okp := fun _ => True) rfl (fun _ hk => hk) trivial (oD (by first | (with_reducible assumption) | assumption)) (Nat.le_trans (Nat.mul_le_mul_right _ (oD (by first | (with_reducible assumption) | assumption) : (l0_3.length : Int).toNat ≤ 35184372088832)) (by omega)) (Below.refl _ _) (Nat.le_refl _) ?_; intro v622 w6 ho7 hb hg_ hnew_; clear hg_ hnew_; (first | rw [← Ny621.out] at ho7 | (simp only [Int.reduceToNat] at ho7; rw [← Ny621.out] at ho7)); have n0_ := Aside0.mk (Kd.R_lower ho7 (below_size (by repeat (first | (with_reducible first | exact HB.out | apply bA | apply bN | apply bD | refine bS ?_ GE620.out) | exact HB.out)))); have n1_ := Aside0.mk (blk_below (g := gb620) (o := .cells #[.string a0_0, .int .i64 a0_1, .int .i64 a0_2, .slice A0_3 l0_3.length c0_3] 24 (0, 0)) (by (with_reducible repeat (first | refine kN ?_ _ | refine blk_drew ?_ | refine kA ?_ _)); exact BK620.out) hb); have n2_ := Aside0.mk (below_step (by repeat (first | (with_reducible first | exact HB.out | apply bA | apply bN | apply bD | refine bS ?_ GE620.out) | exact HB.out)) hb); clear BK620; clear HB; have HO623 := n0_; have BK620 := n1_; have HB := n2_; clear n0_ n1_ n2_; clear hb ho7))
   go_loopg [4] k (fun kq v4 w' => ∃ (x3_1 : List Int) (x4_1 : Bool), v4 = .bool x4_1 ∧ Aside0 (live_sets.l0 kq x3_1 x4_1 a0_0 a0_1 a0_2 l0_3 = some r) ∧ Aside0 (kq ≤ k) ∧ Aside0 (Kd.R (Kd.int .u64) 63 w' w.heap.size (fun _ => True) v622 x3_1) ∧ Aside0 (w'.heap[gb620]? = some (.cells #[.string a0_0, .int .i64 a0_1, .int .i64 a0_2, (.slice A0_3 l0_3.length c0_3)] 24 (0, 0))) ∧ Aside0 (Below w.heap.size w w'))
   case atStart => exact ⟨(y621), (true), (by first | rfl | (simp; done) | (simp [*]; done)), H', ⟨Nat.le_refl _⟩, ⟨by (with_reducible repeat (first | apply Kd.R_alloc | apply Kd.R_drewN | apply Kd.R_drew)); exact HO623.out⟩, ⟨by (with_reducible repeat (first | refine kN ?_ _ | refine blk_drew ?_ | refine kA ?_ _)); exact BK620.out⟩, ⟨by repeat (first | (with_reducible first | exact HB.out | apply bA | apply bN | apply bD | refine bS ?_ GE620.out) | exact HB.out)⟩⟩
   case round =>
    clear H'
    try clear c2
    try clear c2b0
    try clear c2b1
    try clear p2
    try clear c3
    try clear c3b0
    try clear c3b1
    try clear hcz5_0
    try clear hcz5_1
    try clear hcz5_2
    try clear hcz5_3
    try clear hfz5_0
    try clear hfz5_1
    try clear hfz5_2
    try clear hfz5_3
    obtain ⟨x3_1, x4_1, rfl, HA, HK1, HO_3, BK620, HB⟩ := hrel
    cases gk with
    | zero => exact absurd HA.out (by simp [live_sets.l0])
    | succ k1 =>
     have H := HA.out
     clear HA
     simp only [live_sets.l0] at H
     by_cases c8 : x4_1 = true
     ·subst c8
      have H1 : (live_sets.l1 k1 x3_1 false (wrap64 ((l0_3.length : Int) - 1)) a0_0 a0_1 a0_2 l0_3) = some r := by rw [if_pos rfl] at H; exact H
      clear H
      have H := H1
      clear H1
      have H' := Aside0.mk H
      clear H
      have hcz9_0 : wr.cell? ⟨gb620, 0, none⟩ = some (.string a0_0) := (bC BK620.out 0).trans rfl
      have hcz9_1 : wr.cell? ⟨gb620, 1, none⟩ = some (.int .i64 a0_1) := (bC BK620.out 1).trans rfl
      have hcz9_2 : wr.cell? ⟨gb620, 2, none⟩ = some (.int .i64 a0_2) := (bC BK620.out 2).trans rfl
      have hcz9_3 : wr.cell? ⟨gb620, 3, none⟩ = some (.slice A0_3 l0_3.length c0_3) := (bC BK620.out 3).trans rfl
      have hfz9_0 := bZ BK620.out 0
      have hfz9_1 := bZ BK620.out 1
      have hfz9_2 := bZ BK620.out 2
      have hfz9_3 := bZ BK620.out 3
      go_wp2
      go_loopg [4, 5] k1 (fun kq v4 v5 w' => ∃ (x3_2 : List Int) (x4_2 : Bool) (x5_2 : Int), v4 = .bool x4_2 ∧ v5 = .int .i64 x5_2 ∧ Aside0 (live_sets.l1 kq x3_2 x4_2 x5_2 a0_0 a0_1 a0_2 l0_3 = some r) ∧ Aside0 (kq ≤ k1) ∧ Aside0 (Kd.R (Kd.int .u64) 63 w' w.heap.size (fun _ => True) v622 x3_2) ∧ Aside0 (w'.heap[gb620]? = some (.cells #[.string a0_0, .int .i64 a0_1, .int .i64 a0_2, (.slice A0_3 l0_3.length c0_3)] 24 (0, 0))) ∧ Aside0 (Below w.heap.size w w'))
      case atStart => exact ⟨(x3_1), (false), (wrap64 ((l0_3.length : Int) - 1)), (by first | rfl | (simp; done) | (simp [*]; done)), (by first | rfl | (simp; done) | (simp [*]; done)), H', ⟨Nat.le_refl _⟩, ⟨by (with_reducible repeat (first | apply Kd.R_alloc | apply Kd.R_drewN | apply Kd.R_drew)); exact HO_3.out⟩, ⟨by (with_reducible repeat (first | refine kN ?_ _ | refine blk_drew ?_ | refine kA ?_ _)); exact BK620.out⟩, ⟨by repeat (first | (with_reducible first | exact HB.out | apply bA | apply bN | apply bD | refine bS ?_ GE620.out) | exact HB.out)⟩⟩
      case round =>
       clear H'
       try clear c2
       try clear c2b0
       try clear c2b1
       try clear p2
       try clear c3
       try clear c3b0
       try clear c3b1
       try clear p6
       try clear c8
       try clear hcz5_0
       try clear hcz5_1
       try clear hcz5_2
       try clear hcz5_3
       try clear hcz9_0
       try clear hcz9_1
       try clear hcz9_2
       try clear hcz9_3
       try clear hfz5_0
       try clear hfz5_1
       try clear hfz5_2
       try clear hfz5_3
       try clear hfz9_0
       try clear hfz9_1
       try clear hfz9_2
       try clear hfz9_3
       try clear p2
       obtain ⟨x3_2, x4_2, x5_2, rfl, rfl, HA, HK2, HO_3, BK620, HB⟩ := hrel
       cases gk with
       | zero => exact absurd HA.out (by simp [live_sets.l1])
       | succ k2 =>
        have H := HA.out
        clear HA
        simp only [live_sets.l1] at H
        by_cases c10 : x5_2 ≥ 0
        ·rw [if_pos c10] at H
         have c10b0 : decide (0 ≤ x5_2) = true := decide_eq_true c10
         clear c10
         replace H := Option.bind_eq_some_iff.mp H
         obtain ⟨t624, A110, H⟩ := H
         replace H : (if x4_2 = true then (if 0 ≤ x5_2 then (if x5_2 < (x3_2.length : Int) then (live_sets.l1 k2 (x3_2.set (x5_2 : Int).toNat t624) true (wrap64 (x5_2 - 1)) a0_0 a0_1 a0_2 l0_3) else (none)) else (none)) else (if 0 ≤ x5_2 then (if x5_2 < (x3_2.length : Int) then (live_sets.l1 k2 (x3_2.set (x5_2 : Int).toNat t624) (t624 != (rd x3_2 x5_2)) (wrap64 (x5_2 - 1)) a0_0 a0_1 a0_2 l0_3) else (none)) else (none))) = some r := H
         have A11 := Aside0.mk A110
         clear A110
         by_cases c12 : x4_2 = true
         ·subst c12
          have H1 : (if 0 ≤ x5_2 then (if x5_2 < (x3_2.length : Int) then (live_sets.l1 k2 (x3_2.set (x5_2 : Int).toNat t624) true (wrap64 (x5_2 - 1)) a0_0 a0_1 a0_2 l0_3) else (none)) else (none)) = some r := by rw [if_pos rfl] at H; exact H
          clear H
          have H := H1
          clear H1
          by_cases c13 : 0 ≤ x5_2
          ·rw [if_pos c13] at H
           have c13b0 : decide (0 ≤ x5_2) = true := decide_eq_true c13
           clear c13
           by_cases c14 : x5_2 < (x3_2.length : Int)
           ·rw [if_pos c14] at H
            have c14b0 : decide (x5_2 < (x3_2.length : Int)) = true := decide_eq_true c14
            clear c14
            obtain ⟨y625, hy625⟩ : ∃ y_ : List Int, y_ = (x3_2.set (x5_2 : Int).toNat t624) := ⟨_, rfl⟩
            replace H : (live_sets.l1 k2 y625 true (wrap64 (x5_2 - 1)) a0_0 a0_1 a0_2 l0_3) = some r := by first | (rw [hy625]; with_reducible exact H) | (have H2_ := (Option.bind_some _ _).symm.trans H; rw [hy625]; with_reducible exact H2_) | (have H2_ := (Option.bind_some _ _).symm.trans H; with_reducible exact H2_) | with_reducible exact H | (rw [hy625]; exact H) | exact H
            have Ny625 := Aside0.mk hy625
            clear hy625
            have H' := Aside0.mk H
            clear H
            have hcz16_0 : wr.cell? ⟨gb620, 0, none⟩ = some (.string a0_0) := (bC BK620.out 0).trans rfl
            have hcz16_1 : wr.cell? ⟨gb620, 1, none⟩ = some (.int .i64 a0_1) := (bC BK620.out 1).trans rfl
            have hcz16_2 : wr.cell? ⟨gb620, 2, none⟩ = some (.int .i64 a0_2) := (bC BK620.out 2).trans rfl
            have hcz16_3 : wr.cell? ⟨gb620, 3, none⟩ = some (.slice A0_3 l0_3.length c0_3) := (bC BK620.out 3).trans rfl
            have hfz16_0 := bZ BK620.out 0
            have hfz16_1 := bZ BK620.out 1
            have hfz16_2 := bZ BK620.out 2
            have hfz16_3 := bZ BK620.out 3
            obtain ⟨Ao17, co17, eo17⟩ := Kd.R_slice HO_3.out
            subst eo17
            go_wp2_with (first | ((with_reducible refine gate_callee (f := 65) rfl ?_); refine goesL_ (some 23) rfl rfl Tryd.func65 (by kernel_rfl) rfl #[.agg #[.string a0_0, .int .i64 a0_1, .int .i64 a0_2, .slice A0_3 l0_3.length c0_3], .slice Ao17 x3_2.length co17, .int .i64 x5_2, .int .i64 0] rfl (by (try simp only [List.map_toArray, List.map_cons, List.map_nil]); first | done | rfl | (simp only [List.length_drop, List.length_take]; rfl)) ?_; (with_reducible refine (live_ahead.calls k2 a0_0 a0_1 a0_2 _ _ l0_3 _ _ x3_2 x5_2 0 t624 _ ?side5 ?side1 ?side2 ?side3 ?side4 A11.out).mono ?_); (case side1 => repeat (first | exact (Kd.C_below HR0_3.out HB.out) | (with_reducible refine Kd.C_alloc ?_ _) | (with_reducible refine Kd.C_drewN ?_ _) | (with_reducible refine Kd.C_drew ?_))); (case side2 => exact HC0_3.out); (case side3 => repeat (first | exact (Kd.R_reads' HO_3.out).2.2 | (with_reducible refine Kd.C_alloc ?_ _) | (with_reducible refine Kd.C_drewN ?_ _) | (with_reducible refine Kd.C_drew ?_))); (case side4 => exact (Kd.R_reads' HO_3.out).2.1); (case side5 => first | exact GS.of_below HGS.out (by repeat (first | (with_reducible first | exact HB.out | apply bA | apply bN | apply bD | refine bS ?_ GE620.out) | exact HB.out)) | (repeat (first | exact HGS.out | apply GS.alloc | apply GS.drewN | apply GS.drew))); rintro e w18 ⟨rfl, hb⟩; refine ⟨_, rfl, ?_⟩; have n0_ := Aside0.mk (Kd.R_below (by (with_reducible repeat (first | apply Kd.R_alloc | apply Kd.R_drewN | apply Kd.R_drew)); exact HO_3.out) hb); have n1_ := Aside0.mk (blk_below (g := gb620) (o := .cells #[.string a0_0, .int .i64 a0_1, .int .i64 a0_2, .slice A0_3 l0_3.length c0_3] 24 (0, 0)) (by (with_reducible repeat (first | refine kN ?_ _ | refine blk_drew ?_ | refine kA ?_ _)); exact BK620.out) hb); have n2_ := Aside0.mk (below_step (by repeat (first | (with_reducible first | exact HB.out | apply bA | apply bN | apply bD | refine bS ?_ GE620.out) | exact HB.out)) hb); clear HO_3; clear BK620; clear HB; have HO_3 := n0_; have BK620 := n1_; have HB := n2_; clear n0_ n1_ n2_; (try clear hb); (try clear hb2); (try clear hk); (try clear hi); have p15 : 0 ≤ (x5_2 : Int) := oD (by first | (with_reducible assumption) | assumption); have q15 : (x5_2 : Int) < ((x3_2.length : Int) : Int) := oD (by first | (with_reducible assumption) | assumption); obtain ⟨go15, co15, eo15, gb15, gl15, cl15, HG15⟩ := Kd.R_form HO_3.out (by omega); (first | cases eo15 | (injection eo15 with ea_ en_ ec_; (first | subst ea_ | (injection ea_ with ea_; subst ea_)); subst ec_; clear en_)); have GB15 := Aside0.mk gb15; have GG15 := Aside0.mk HG15; clear gb15 gl15 HG15; obtain ⟨hx15_0, hf15_0⟩ := Kd.R_celln 0 HO_3.out (x5_2 : Int) p15 q15; replace p15 := eq_true p15; replace q15 := eq_true q15; obtain ⟨hy19_, hz19_⟩ := Kd.R_celln 0 HO_3.out (x5_2 : Int) (oD (by first | (with_reducible assumption) | assumption)) (oD (by first | (with_reducible assumption) | assumption)); have HP19 := Kd.R_putg HO_3.out (x5_2 : Int) t624) | ((with_reducible refine gate_store (t := 63) (p := 36) rfl ?_); refine store_event (t := 63) (p := 36) (v := ?vo_w20) (w1 := (w18.setCell ⟨go15, (x5_2 : Int).toNat, none⟩ (.int .u64 t624))) ?hg ?ho ?hn ?hr ?_; (case ho => rfl); (case hg => rfl); (case hn => rfl); (case hr => first | (go_simp; done) | (go_simp; rfl)); intro w20 hw; have hg : w18.grownBy w20 (some go15) := (by rw [hw]; exact HP19.2); have hp_ : Kd.R (Kd.int .u64) 63 w20 w.heap.size (fun _ => True) (.slice (some ⟨go15, 0, none⟩) x3_2.length co17) y625 := (by rw [hw, Ny625.out]; exact HP19.1); clear HP19; have n0_ := Aside0.mk (hp_); have n1_ := Aside0.mk (blk_grown (g := gb620) (o := .cells #[.string a0_0, .int .i64 a0_1, .int .i64 a0_2, .slice A0_3 l0_3.length c0_3] 24 (0, 0)) (by (with_reducible repeat (first | refine kN ?_ _ | refine blk_drew ?_ | refine kA ?_ _)); exact BK620.out) hg (Kd.R_ne HO_3.out BK620.out (by decide))); have n2_ := Aside0.mk ((by rw [hw]; exact bS (HB.out) GB15.out : Below w.heap.size w w20)); clear HO_3; clear BK620; clear HB; have HO_3 := n0_; have BK620 := n1_; have HB := n2_; clear n0_ n1_ n2_; clear hg hw hp_))
            go_roundg k2
            case measure => have := HK1.out; have := HK2.out; omega
            case rel => exact ⟨(y625), (true), (wrap64 (x5_2 - 1)), (by first | rfl | (simp; done) | (simp [*]; done)), (by first | rfl | (simp; done) | (simp [*]; done)), H', ⟨by have := HK1.out; have := HK2.out; omega⟩, ⟨by (with_reducible repeat (first | apply Kd.R_alloc | apply Kd.R_drewN | apply Kd.R_drew)); exact HO_3.out⟩, ⟨by (with_reducible repeat (first | refine kN ?_ _ | refine blk_drew ?_ | refine kA ?_ _)); exact BK620.out⟩, ⟨by repeat (first | (with_reducible first | exact HB.out | apply bA | apply bN | apply bD | refine bS ?_ GE620.out) | exact HB.out)⟩⟩
           ·rw [if_neg c14] at H
            exact absurd H (by simp)
          ·rw [if_neg c13] at H
           exact absurd H (by simp)
         ·replace c12 := Bool.eq_false_iff.mpr c12
          subst c12
          have H1 : (if 0 ≤ x5_2 then (if x5_2 < (x3_2.length : Int) then (live_sets.l1 k2 (x3_2.set (x5_2 : Int).toNat t624) (t624 != (rd x3_2 x5_2)) (wrap64 (x5_2 - 1)) a0_0 a0_1 a0_2 l0_3) else (none)) else (none)) = some r := by rw [if_neg (show ¬ (false = true) by decide)] at H; exact H
          clear H
          have H := H1
          clear H1
          by_cases c21 : 0 ≤ x5_2
          ·rw [if_pos c21] at H
           have c21b0 : decide (0 ≤ x5_2) = true := decide_eq_true c21
           clear c21
           by_cases c22 : x5_2 < (x3_2.length : Int)
           ·rw [if_pos c22] at H
            have c22b0 : decide (x5_2 < (x3_2.length : Int)) = true := decide_eq_true c22
            clear c22
            obtain ⟨y627, hy627⟩ : ∃ y_ : List Int, y_ = (x3_2.set (x5_2 : Int).toNat t624) := ⟨_, rfl⟩
            replace H : (live_sets.l1 k2 y627 (t624 != (rd x3_2 x5_2)) (wrap64 (x5_2 - 1)) a0_0 a0_1 a0_2 l0_3) = some r := by first | (rw [hy627]; with_reducible exact H) | (have H2_ := (Option.bind_some _ _).symm.trans H; rw [hy627]; with_reducible exact H2_) | (have H2_ := (Option.bind_some _ _).symm.trans H; with_reducible exact H2_) | with_reducible exact H | (rw [hy627]; exact H) | exact H
            have Ny627 := Aside0.mk hy627
            clear hy627
            have H' := Aside0.mk H
            clear H
            have hcz24_0 : wr.cell? ⟨gb620, 0, none⟩ = some (.string a0_0) := (bC BK620.out 0).trans rfl
            have hcz24_1 : wr.cell? ⟨gb620, 1, none⟩ = some (.int .i64 a0_1) := (bC BK620.out 1).trans rfl
            have hcz24_2 : wr.cell? ⟨gb620, 2, none⟩ = some (.int .i64 a0_2) := (bC BK620.out 2).trans rfl
            have hcz24_3 : wr.cell? ⟨gb620, 3, none⟩ = some (.slice A0_3 l0_3.length c0_3) := (bC BK620.out 3).trans rfl
            have hfz24_0 := bZ BK620.out 0
            have hfz24_1 := bZ BK620.out 1
            have hfz24_2 := bZ BK620.out 2
            have hfz24_3 := bZ BK620.out 3
            obtain ⟨Ao25, co25, eo25⟩ := Kd.R_slice HO_3.out
            subst eo25
            go_wp2_with (first | ((with_reducible refine gate_callee (f := 65) rfl ?_); refine goesL_ (some 23) rfl rfl Tryd.func65 (by kernel_rfl) rfl #[.agg #[.string a0_0, .int .i64 a0_1, .int .i64 a0_2, .slice A0_3 l0_3.length c0_3], .slice Ao25 x3_2.length co25, .int .i64 x5_2, .int .i64 0] rfl (by (try simp only [List.map_toArray, List.map_cons, List.map_nil]); first | done | rfl | (simp only [List.length_drop, List.length_take]; rfl)) ?_; (with_reducible refine (live_ahead.calls k2 a0_0 a0_1 a0_2 _ _ l0_3 _ _ x3_2 x5_2 0 t624 _ ?side5 ?side1 ?side2 ?side3 ?side4 A11.out).mono ?_); (case side1 => repeat (first | exact (Kd.C_below HR0_3.out HB.out) | (with_reducible refine Kd.C_alloc ?_ _) | (with_reducible refine Kd.C_drewN ?_ _) | (with_reducible refine Kd.C_drew ?_))); (case side2 => exact HC0_3.out); (case side3 => repeat (first | exact (Kd.R_reads' HO_3.out).2.2 | (with_reducible refine Kd.C_alloc ?_ _) | (with_reducible refine Kd.C_drewN ?_ _) | (with_reducible refine Kd.C_drew ?_))); (case side4 => exact (Kd.R_reads' HO_3.out).2.1); (case side5 => first | exact GS.of_below HGS.out (by repeat (first | (with_reducible first | exact HB.out | apply bA | apply bN | apply bD | refine bS ?_ GE620.out) | exact HB.out)) | (repeat (first | exact HGS.out | apply GS.alloc | apply GS.drewN | apply GS.drew))); rintro e w26 ⟨rfl, hb⟩; refine ⟨_, rfl, ?_⟩; have n0_ := Aside0.mk (Kd.R_below (by (with_reducible repeat (first | apply Kd.R_alloc | apply Kd.R_drewN | apply Kd.R_drew)); exact HO_3.out) hb); have n1_ := Aside0.mk (blk_below (g := gb620) (o := .cells #[.string a0_0, .int .i64 a0_1, .int .i64 a0_2, .slice A0_3 l0_3.length c0_3] 24 (0, 0)) (by (with_reducible repeat (first | refine kN ?_ _ | refine blk_drew ?_ | refine kA ?_ _)); exact BK620.out) hb); have n2_ := Aside0.mk (below_step (by repeat (first | (with_reducible first | exact HB.out | apply bA | apply bN | apply bD | refine bS ?_ GE620.out) | exact HB.out)) hb); clear HO_3; clear BK620; clear HB; have HO_3 := n0_; have BK620 := n1_; have HB := n2_; clear n0_ n1_ n2_; (try clear hb); (try clear hb2); (try clear hk); (try clear hi); have p626 : 0 ≤ (x5_2 : Int) := oD (by first | (with_reducible assumption) | assumption); have q626 : x5_2 < (x3_2.length : Int) := oD (by first | (with_reducible assumption) | assumption); obtain ⟨ad626, e626, hx626_0⟩ := Kd.at_int (Kd.R_reads' HO_3.out).2.2 x5_2 p626 q626; cases e626; replace p626 := eq_true p626; replace q626 := eq_true q626; have p23 : 0 ≤ (x5_2 : Int) := oD (by first | (with_reducible assumption) | assumption); have q23 : (x5_2 : Int) < ((x3_2.length : Int) : Int) := oD (by first | (with_reducible assumption) | assumption); obtain ⟨go23, co23, eo23, gb23, gl23, cl23, HG23⟩ := Kd.R_form HO_3.out (by omega); (first | cases eo23 | (injection eo23 with ea_ en_ ec_; (first | subst ea_ | (injection ea_ with ea_; subst ea_)); subst ec_; clear en_)); have GB23 := Aside0.mk gb23; have GG23 := Aside0.mk HG23; clear gb23 gl23 HG23; (first | simp only [add_plain] at hx626_0 | skip); obtain ⟨hx23_0, hf23_0⟩ := Kd.R_celln 0 HO_3.out (x5_2 : Int) p23 q23; replace p23 := eq_true p23; replace q23 := eq_true q23; obtain ⟨hy27_, hz27_⟩ := Kd.R_celln 0 HO_3.out (x5_2 : Int) (oD (by first | (with_reducible assumption) | assumption)) (oD (by first | (with_reducible assumption) | assumption)); have HP27 := Kd.R_putg HO_3.out (x5_2 : Int) t624) | ((with_reducible refine gate_store (t := 63) (p := 36) rfl ?_); refine store_event (t := 63) (p := 36) (v := ?vo_w28) (w1 := (w26.setCell ⟨go23, (x5_2 : Int).toNat, none⟩ (.int .u64 t624))) ?hg ?ho ?hn ?hr ?_; (case ho => rfl); (case hg => rfl); (case hn => rfl); (case hr => first | (go_simp; done) | (go_simp; rfl)); intro w28 hw; have hg : w26.grownBy w28 (some go23) := (by rw [hw]; exact HP27.2); have hp_ : Kd.R (Kd.int .u64) 63 w28 w.heap.size (fun _ => True) (.slice (some ⟨go23, 0, none⟩) x3_2.length co25) y627 := (by rw [hw, Ny627.out]; exact HP27.1); clear HP27; have n0_ := Aside0.mk (hp_); have n1_ := Aside0.mk (blk_grown (g := gb620) (o := .cells #[.string a0_0, .int .i64 a0_1, .int .i64 a0_2, .slice A0_3 l0_3.length c0_3] 24 (0, 0)) (by (with_reducible repeat (first | refine kN ?_ _ | refine blk_drew ?_ | refine kA ?_ _)); exact BK620.out) hg (Kd.R_ne HO_3.out BK620.out (by decide))); have n2_ := Aside0.mk ((by rw [hw]; exact bS (HB.out) GB23.out : Below w.heap.size w w28)); clear HO_3; clear BK620; clear HB; have HO_3 := n0_; have BK620 := n1_; have HB := n2_; clear n0_ n1_ n2_; clear hg hw hp_))
            go_roundg k2
            case measure => have := HK1.out; have := HK2.out; omega
            case rel => exact ⟨(y627), ((t624 != (rd x3_2 x5_2))), (wrap64 (x5_2 - 1)), (by first | rfl | (simp; done) | (simp [*]; done)), (by first | rfl | (simp; done) | (simp [*]; done)), H', ⟨by have := HK1.out; have := HK2.out; omega⟩, ⟨by (with_reducible repeat (first | apply Kd.R_alloc | apply Kd.R_drewN | apply Kd.R_drew)); exact HO_3.out⟩, ⟨by (with_reducible repeat (first | refine kN ?_ _ | refine blk_drew ?_ | refine kA ?_ _)); exact BK620.out⟩, ⟨by repeat (first | (with_reducible first | exact HB.out | apply bA | apply bN | apply bD | refine bS ?_ GE620.out) | exact HB.out)⟩⟩
           ·rw [if_neg c22] at H
            exact absurd H (by simp)
          ·rw [if_neg c21] at H
           exact absurd H (by simp)
        ·rw [if_neg c10] at H
         have c10b0 : decide (0 ≤ x5_2) = false := decide_eq_false c10
         clear c10
         have H' := Aside0.mk H
         clear H
         go_wp2
         go_roundg k2
         case measure => have := HK1.out; have := HK2.out; omega
         case rel => exact ⟨(x3_2), (x4_2), (by first | rfl | (simp; done) | (simp [*]; done)), H', ⟨by have := HK1.out; have := HK2.out; omega⟩, ⟨by (with_reducible repeat (first | apply Kd.R_alloc | apply Kd.R_drewN | apply Kd.R_drew)); exact HO_3.out⟩, ⟨by (with_reducible repeat (first | refine kN ?_ _ | refine blk_drew ?_ | refine kA ?_ _)); exact BK620.out⟩, ⟨by repeat (first | (with_reducible first | exact HB.out | apply bA | apply bN | apply bD | refine bS ?_ GE620.out) | exact HB.out)⟩⟩
     ·replace c8 := Bool.eq_false_iff.mpr c8
      subst c8
      have H1 : (some x3_1) = some r := by rw [if_neg (show ¬ (false = true) by decide)] at H; exact H
      clear H
      have H := H1
      clear H1
      obtain rfl := Option.some.inj H
      go_wp2
      go_ret
      exact ⟨_, by first | rfl | (simp [errW_none, errW_some] <;> rfl) | (simp [*, errW_none, errW_some] <;> rfl), by (with_reducible repeat (first | apply Kd.R_alloc | apply Kd.R_drewN | apply Kd.R_drew)); exact HO_3.out, by repeat (first | (with_reducible first | exact HB.out | apply bA | apply bN | apply bD | refine bS ?_ GE620.out) | exact HB.out)⟩
  ·rw [if_neg c3] at H
   exact absurd H (by simp)
 ·rw [if_neg c2] at H
  exact absurd H (by simp)
end Go.Proofs.YtoilapjkgligfaaDoor.P
namespace Go.Proofs.YtoilapjkgligfaaDoor.P
set_option linter.unusedVariables false
open Go.RowKit Go.Proofs.YtoilapjkgligfaaDoorW.PrintWords Go.Proofs.YtoilapjkgligfaaDoorW.PrintLast Go.Proofs.YtoilapjkgligfaaDoorW.PrintMore

def live_Check.f (k : Nat) (a0_0 : ByteArray) (a0_1 a0_2 : Int) (l0_3 : List (List (S32))) : Option Int :=
  (ir_Check.f k a0_0 a0_1 a0_2 l0_3).bind fun e => if e = 0 then (live_sets.f k a0_0 a0_1 a0_2 l0_3).bind fun t => if 0 < t.length then if 0 ≤ a0_1 then (if shr .u64 (rd t 0) (IntKind.u64.wrap a0_1) = 0 then some 0 else some 110) else none else none else some e

theorem live_sets.first (k : Nat) (a0_0 : ByteArray) (a0_1 : Int) (a0_2 : Int) (A0_3 : Option Addr) (c0_3 : Nat) (l0_3 : List (List (S32))) (r : List Int) (w : World) (hGS : GS w) (hr0_3 : Kd.C (Kd.slice 32 k32) w A0_3 l0_3.length l0_3) (hc0_3 : l0_3.length ≤ c0_3) (h : live_sets.f k a0_0 a0_1 a0_2 l0_3 = some r) (h0 : 0 < r.length) :
    Calls Tryd.prog 28 #[.agg #[.string a0_0, .int .i64 a0_1, .int .i64 a0_2, .slice A0_3 l0_3.length c0_3]] w fun e w' => ∃ ad cc, e = .returned (.slice (some ad) r.length cc) ∧ w'.cell? ad = some (.int .u64 (rd r 0)) ∧ Below w.heap.size w w' := by
  refine (live_sets.calls k a0_0 a0_1 a0_2 A0_3 c0_3 l0_3 r w hGS hr0_3 hc0_3 h).mono ?_
  rintro e w' ⟨v, rfl, hv, hb⟩
  obtain ⟨A2, cc2, rfl, hl2, hr2⟩ := Kd.R_reads hv
  obtain ⟨ad, e2, hx⟩ := Kd.at_int hr2 0 (by omega) (by omega)
  subst e2
  rw [show (0 : Int).toNat = 0 from rfl, Addr.add_zero'] at hx
  exact ⟨ad, cc2, rfl, hx, hb⟩

set_option maxHeartbeats 1000000 in
set_option maxRecDepth 100000 in
theorem live_Check.calls (k : Nat) (a0_0 : ByteArray) (a0_1 : Int) (a0_2 : Int) (A0_3 : Option Addr) (c0_3 : Nat) (l0_3 : List (List (S32))) (r : Int) (w : World) (hGS : GS w) (hr0_3 : Kd.C (Kd.slice 32 k32) w A0_3 l0_3.length l0_3) (hc0_3 : l0_3.length ≤ c0_3) (h : live_Check.f k a0_0 a0_1 a0_2 l0_3 = some r) :
    Calls Tryd.prog 10 #[.agg #[.string a0_0, .int .i64 a0_1, .int .i64 a0_2, .slice A0_3 l0_3.length c0_3]] w fun e w' => e = .returned (.int .i64 r) ∧ Below w.heap.size w w' := by
  have hu24 := Tryd.underlying24
  have HG := Aside0.mk hGS
  have HR := Aside0.mk hr0_3
  have HC := Aside0.mk hc0_3
  replace h := Option.bind_eq_some_iff.mp h
  obtain ⟨e, he, h⟩ := h
  have HE := Aside0.mk he
  clear hGS hr0_3 hc0_3 he
  have HB := Aside0.mk (below_alloc (Below.refl w.heap.size w) (.cells #[.string a0_0, .int .i64 a0_1, .int .i64 a0_2, .slice A0_3 l0_3.length c0_3] 24 (0, 0)))
  have BK := Aside0.mk (blk_new w (.cells #[.string a0_0, .int .i64 a0_1, .int .i64 a0_2, .slice A0_3 l0_3.length c0_3] 24 (0, 0)))
  by_cases c0 : e = 0
  · rw [if_pos c0] at h
    subst c0
    replace h := Option.bind_eq_some_iff.mp h
    obtain ⟨t, ht, h⟩ := h
    have HT := Aside0.mk ht
    clear ht
    by_cases c1 : 0 < t.length
    · rw [if_pos c1] at h
      have q2 : (0 : Int) < (t.length : Int) := by omega
      by_cases c2 : 0 ≤ a0_1
      · rw [if_pos c2] at h
        have H := Aside0.mk h
        clear h
        obtain ⟨j, hj⟩ : ∃ j_ : Int, IntKind.u64.wrap a0_1 = j_ := ⟨_, rfl⟩
        have hj0 : 0 ≤ j := by rw [← hj]; unfold IntKind.wrap; simp [IntKind.bits, IntKind.signed]; omega
        have j0 := eq_true hj0
        have j1 : decide (0 ≤ j) = true := decide_eq_true hj0
        obtain ⟨i, hi⟩ : ∃ j_ : Int, shr .u64 (rd t 0) j = j_ := ⟨_, rfl⟩
        have hi_ : ((rd t 0) / 2 ^ min j.toNat 64) = i := hi
        have hiz : j ≤ 64 → ((rd t 0) / 2 ^ j.toNat) = i := shr_small hi
        have HI := Aside0.mk hi
        have HJ := Aside0.mk hj
        clear hj0 hi
        go_enter Tryd.func10, Tryd.ntmps10
        go_upto_region 4 with (go_at_call 27; refine (ir_Check.calls k a0_0 a0_1 a0_2 _ _ l0_3 0 _ (HG.out.of_below HB.out) (Kd.C_below HR.out HB.out) HC.out HE.out).mono ?_; rintro e w1 ⟨rfl, hb⟩; have BK1 := Aside0.mk (blk_below BK.out hb); have HB1 := Aside0.mk (below_step HB.out hb); clear hb BK HB)
        have x0 := (blk_cell BK1.out 0).trans rfl
        have x1 := (blk_cell BK1.out 1).trans rfl
        have x2 := (blk_cell BK1.out 2).trans rfl
        have x3 := (blk_cell BK1.out 3).trans rfl
        go_cut [17] (fun v17 wc => v17 = .bool (i != 0) ∧ Aside0 (Below w.heap.size w wc))
        case first =>
          go_region_with (first | (go_at_call 28; go_must (refine (live_sets.first k a0_0 a0_1 a0_2 _ _ l0_3 t _ ?side1 ?side2 HC.out HT.out c1).mono ?_; (case side1 => exact (HG.out.of_below (below_drew1 HB1.out))); (case side2 => exact (Kd.C_below HR.out (below_drew1 HB1.out))); rintro e w2 ⟨ad, cc2, rfl, hx, hb⟩; have x1' := (blk_cell (blk_below (blk_drew BK1.out) hb) 1).trans rfl; have HB2 := Aside0.mk (below_step (below_drew1 HB1.out) hb); clear hb)))
          all_goals
            try go_wp2
            go_meet
            case rel => exact ⟨by first | rfl | simp, HB2⟩
        case rest =>
          clear HB1
          obtain ⟨rfl, HB1⟩ := hcut
          have h := H.out
          rw [HJ.out, HI.out] at h
          by_cases c5 : i = 0
          · rw [if_pos c5] at h
            obtain rfl := Option.some.inj h
            have c6 : (i != 0) = false := by simpa using c5
            clear c5 h H x0 x1 x2 x3 hj
            go_wp2
            go_ret
            exact ⟨rfl, HB1.out⟩
          · rw [if_neg c5] at h
            obtain rfl := Option.some.inj h
            have c6 : (i != 0) = true := by simpa using c5
            clear c5 h H x0 x1 x2 x3 hj
            go_wp2
            go_ret
            exact ⟨rfl, HB1.out⟩
      · rw [if_neg c2] at h
        simp at h
    · rw [if_neg c1] at h
      simp at h
  · rw [if_neg c0] at h
    obtain rfl := Option.some.inj h
    have c1 : (e == 0) = false := by simpa using c0
    have c2 : (e != 0) = true := by simpa using c0
    clear c0 h
    go_enter Tryd.func10, Tryd.ntmps10
    go_wp2_with (go_at_call 27; refine (ir_Check.calls k a0_0 a0_1 a0_2 _ _ l0_3 e _ (HG.out.of_below HB.out) (Kd.C_below HR.out HB.out) HC.out HE.out).mono ?_; rintro e w1 ⟨rfl, hb⟩; have HB1 := Aside0.mk (below_step HB.out hb); clear hb BK HB)
    go_ret
    exact ⟨rfl, HB1.out⟩
end Go.Proofs.YtoilapjkgligfaaDoor.P
namespace Go.Proofs.YtoilapjkgligfaaDoor.P
open Go.RowKit Go.Proofs.YtoilapjkgligfaaDoorW.PrintWords Go.Proofs.YtoilapjkgligfaaDoorW.PrintLast Go.Proofs.YtoilapjkgligfaaDoorW.PrintMore
attribute [local go_sem] max2_int min2_int max_two min_two max_three min_three max_four min_four 
set_option linter.unusedVariables false
set_option linter.unusedSimpArgs false
mutual
def cubbyref07_Name.j0 : Nat → ByteArray → Bool → Option (Bool)
 | 0, _, _ => none
 | k + 1, x0, x13 => if x13 = true then (some false) else (cubbyref07_Name.l0 k x0 0)
def cubbyref07_Name.l0 : Nat → ByteArray → Int → Option (Bool)
 | 0, _, _ => none
 | k + 1, x0, x3 => if x3 < (x0.size : Int) then (if 0 ≤ x3 then (if (bt x0 x3) ≥ 97 then (if (bt x0 x3) ≥ 48 then (if ((bt x0 x3) ≤ 122) then (cubbyref07_Name.l0 k x0 (wrap64 (x3 + 1))) else (if ((bt x0 x3) ≤ 57) then (if x3 = 0 then (some false) else (cubbyref07_Name.l0 k x0 (wrap64 (x3 + 1)))) else (some false))) else (if ((bt x0 x3) ≤ 122) then (cubbyref07_Name.l0 k x0 (wrap64 (x3 + 1))) else (some false))) else (if (bt x0 x3) ≥ 48 then (if ((bt x0 x3) ≤ 57) then (if x3 = 0 then (some false) else (cubbyref07_Name.l0 k x0 (wrap64 (x3 + 1)))) else (some false)) else (some false))) else (none)) else (some true)
end
def cubbyref07_Name.f (k : Nat) (a0 : ByteArray) : Option (Bool) := if (a0.size : Int) < 1 then (cubbyref07_Name.j0 k a0 true) else (cubbyref07_Name.j0 k a0 (decide ((a0.size : Int) > 12)))
set_option maxHeartbeats 8000000 in
set_option maxRecDepth 100000 in
theorem cubbyref07_Name.calls (k : Nat) (a0 : ByteArray) (r : Bool) (w : World) (h : cubbyref07_Name.f k a0 = some r) :
  Calls Tryd.prog 29 #[.string a0] w fun e w' => e = .returned (.bool r) ∧ Drawn0 w w' := by
 have H : (if (a0.size : Int) < 1 then (cubbyref07_Name.j0 k a0 true) else (cubbyref07_Name.j0 k a0 (decide ((a0.size : Int) > 12)))) = some r := h
 clear h
 have HC2 := Aside0.mk H
 clear H
 go_enter Tryd.func29, Tryd.ntmps29
 go_upto_region 1 with (fail)
 go_cut [13] (fun v13 wc => ∃ (kq : Nat) (x13_1 : Bool), v13 = .bool x13_1 ∧ Aside0 (cubbyref07_Name.j0 kq a0 x13_1 = some r) ∧ Aside0 (kq ≤ k) ∧ Drawn0 w wc)
 case first =>
  have H := HC2.out
  clear HC2
  by_cases c3 : (a0.size : Int) < 1
  ·rw [if_pos c3] at H
   have c3b0 : decide ((a0.size : Int) < 1) = true := decide_eq_true c3
   have c3b1 : decide (a0.size < 1) = true := decide_eq_true (by omega)
   clear c3
   (first | rw [c3b0] | (simp only [i64_w]; rw [c3b0]) | skip)
   have H' := Aside0.mk H
   clear H
   go_wp2
   go_meet
   case rel => exact ⟨_, (true), (by first | rfl | (simp; done) | (simp [*]; done)), H', ⟨by first | omega | exact Nat.le_refl _⟩, by repeat (first | exact Drawn0.refl _ | apply Drawn0.step)⟩
  ·rw [if_neg c3] at H
   have c3b0 : decide ((a0.size : Int) < 1) = false := decide_eq_false c3
   have c3b1 : decide (a0.size < 1) = false := decide_eq_false (by omega)
   clear c3
   (first | rw [c3b0] | (simp only [i64_w]; rw [c3b0]) | skip)
   have H' := Aside0.mk H
   clear H
   go_wp2
   go_meet
   case rel => exact ⟨_, (decide ((a0.size : Int) > 12)), (by first | rfl | (simp; done) | (simp [*]; done)), H', ⟨by first | omega | exact Nat.le_refl _⟩, by repeat (first | exact Drawn0.refl _ | apply Drawn0.step)⟩
 case rest =>
  clear HC2
  try clear c2
  try clear p2
  try clear c3
  try clear c3b0
  try clear c3b1
  obtain ⟨kq, x13_1, rfl, HA, HJ1, ⟨mc1, rfl⟩⟩ := hcut
  cases kq with
  | zero => exact absurd HA.out (by simp [cubbyref07_Name.j0])
  | succ kj1 =>
   have H := HA.out
   clear HA
   simp only [cubbyref07_Name.j0] at H
   by_cases c4 : x13_1 = true
   ·subst c4
    have H1 : (some false) = some r := by rw [if_pos rfl] at H; exact H
    clear H
    have H := H1
    clear H1
    obtain rfl := Option.some.inj H
    go_wp2
    go_ret
    exact ⟨by first | rfl | (simp; done) | (simp [*]; done), by repeat (first | exact Drawn0.refl _ | apply Drawn0.step)⟩
   ·replace c4 := Bool.eq_false_iff.mpr c4
    subst c4
    have H1 : (cubbyref07_Name.l0 kj1 a0 0) = some r := by rw [if_neg (show ¬ (false = true) by decide)] at H; exact H
    clear H
    have H := H1
    clear H1
    have H' := Aside0.mk H
    clear H
    go_wp2
    go_loopg [3] kj1 (fun kq v3 w' => ∃ (x3_2 : Int), v3 = .int .i64 x3_2 ∧ Aside0 (cubbyref07_Name.l0 kq a0 x3_2 = some r) ∧ Aside0 (kq ≤ kj1) ∧ Drawn0 w w')
    case atStart => exact ⟨(0), (by first | rfl | (simp; done) | (simp [*]; done)), H', ⟨Nat.le_refl _⟩, by repeat (first | exact Drawn0.refl _ | apply Drawn0.step)⟩
    case round =>
     clear H'
     try clear c1
     try clear c2
     try clear p2
     try clear c3
     try clear c3b0
     try clear c3b1
     try clear c4
     try clear p2
     obtain ⟨x3_2, rfl, HA, HK2, ⟨m2, rfl⟩⟩ := hrel
     cases gk with
     | zero => exact absurd HA.out (by simp [cubbyref07_Name.l0])
     | succ k2 =>
      have H := HA.out
      clear HA
      simp only [cubbyref07_Name.l0] at H
      by_cases c5 : x3_2 < (a0.size : Int)
      ·rw [if_pos c5] at H
       have c5b0 : decide (x3_2 < (a0.size : Int)) = true := decide_eq_true c5
       clear c5
       by_cases c6 : 0 ≤ x3_2
       ·rw [if_pos c6] at H
        have c6b0 : decide (0 ≤ x3_2) = true := decide_eq_true c6
        clear c6
        by_cases c8 : (bt a0 x3_2) ≥ 97
        ·rw [if_pos c8] at H
         have c8b0 : decide (97 ≤ (bt a0 x3_2)) = true := decide_eq_true c8
         clear c8
         by_cases c11 : (bt a0 x3_2) ≥ 48
         ·rw [if_pos c11] at H
          have c11b0 : decide (48 ≤ (bt a0 x3_2)) = true := decide_eq_true c11
          clear c11
          by_cases c13 : ((bt a0 x3_2) ≤ 122)
          ·rw [if_pos c13] at H
           have c13b0 : decide ((bt a0 x3_2) ≤ 122) = true := decide_eq_true c13
           clear c13
           have H' := Aside0.mk H
           clear H
           have p7 : 0 ≤ (x3_2 : Int) := oD (by first | (with_reducible assumption) | assumption)
           have q7 : x3_2 < (a0.size : Int) := oD (by first | (with_reducible assumption) | assumption)
           have hx7 := bt_at a0 x3_2
           replace p7 := eq_true p7
           replace q7 := eq_true q7
           have p9 : 0 ≤ (x3_2 : Int) := oD (by first | (with_reducible assumption) | assumption)
           have q9 : x3_2 < (a0.size : Int) := oD (by first | (with_reducible assumption) | assumption)
           have hx9 := bt_at a0 x3_2
           replace p9 := eq_true p9
           replace q9 := eq_true q9
           have p10 : 0 ≤ (x3_2 : Int) := oD (by first | (with_reducible assumption) | assumption)
           have q10 : x3_2 < (a0.size : Int) := oD (by first | (with_reducible assumption) | assumption)
           have hx10 := bt_at a0 x3_2
           replace p10 := eq_true p10
           replace q10 := eq_true q10
           have p12 : 0 ≤ (x3_2 : Int) := oD (by first | (with_reducible assumption) | assumption)
           have q12 : x3_2 < (a0.size : Int) := oD (by first | (with_reducible assumption) | assumption)
           have hx12 := bt_at a0 x3_2
           replace p12 := eq_true p12
           replace q12 := eq_true q12
           go_wp2
           go_roundg k2
           case measure => have := HJ1.out; have := HK2.out; omega
           case rel => exact ⟨(wrap64 (x3_2 + 1)), (by first | rfl | (simp; done) | (simp [*]; done)), H', ⟨by have := HJ1.out; have := HK2.out; omega⟩, by repeat (first | exact Drawn0.refl _ | apply Drawn0.step)⟩
          ·rw [if_neg c13] at H
           have c13b0 : decide ((bt a0 x3_2) ≤ 122) = false := decide_eq_false c13
           clear c13
           by_cases c14 : ((bt a0 x3_2) ≤ 57)
           ·rw [if_pos c14] at H
            have c14b0 : decide ((bt a0 x3_2) ≤ 57) = true := decide_eq_true c14
            clear c14
            by_cases c15 : x3_2 = 0
            ·rw [if_pos c15] at H
             have c15b0 : (x3_2 == 0) = true := beq_iff_eq.mpr c15
             have c15b1 : (x3_2 != 0) = false := bne_eq_false_iff_eq.mpr c15
             clear c15
             obtain rfl := Option.some.inj H
             have p7 : 0 ≤ (x3_2 : Int) := oD (by first | (with_reducible assumption) | assumption)
             have q7 : x3_2 < (a0.size : Int) := oD (by first | (with_reducible assumption) | assumption)
             have hx7 := bt_at a0 x3_2
             replace p7 := eq_true p7
             replace q7 := eq_true q7
             have p9 : 0 ≤ (x3_2 : Int) := oD (by first | (with_reducible assumption) | assumption)
             have q9 : x3_2 < (a0.size : Int) := oD (by first | (with_reducible assumption) | assumption)
             have hx9 := bt_at a0 x3_2
             replace p9 := eq_true p9
             replace q9 := eq_true q9
             have p10 : 0 ≤ (x3_2 : Int) := oD (by first | (with_reducible assumption) | assumption)
             have q10 : x3_2 < (a0.size : Int) := oD (by first | (with_reducible assumption) | assumption)
             have hx10 := bt_at a0 x3_2
             replace p10 := eq_true p10
             replace q10 := eq_true q10
             have p12 : 0 ≤ (x3_2 : Int) := oD (by first | (with_reducible assumption) | assumption)
             have q12 : x3_2 < (a0.size : Int) := oD (by first | (with_reducible assumption) | assumption)
             have hx12 := bt_at a0 x3_2
             replace p12 := eq_true p12
             replace q12 := eq_true q12
             go_wp2
             go_ret
             exact ⟨by first | rfl | (simp; done) | (simp [*]; done), by repeat (first | exact Drawn0.refl _ | apply Drawn0.step)⟩
            ·rw [if_neg c15] at H
             have c15b0 : (x3_2 == 0) = false := beq_eq_false_iff_ne.mpr c15
             have c15b1 : (x3_2 != 0) = true := bne_iff_ne.mpr c15
             have H' := Aside0.mk H
             clear H
             have p7 : 0 ≤ (x3_2 : Int) := oD (by first | (with_reducible assumption) | assumption)
             have q7 : x3_2 < (a0.size : Int) := oD (by first | (with_reducible assumption) | assumption)
             have hx7 := bt_at a0 x3_2
             replace p7 := eq_true p7
             replace q7 := eq_true q7
             have p9 : 0 ≤ (x3_2 : Int) := oD (by first | (with_reducible assumption) | assumption)
             have q9 : x3_2 < (a0.size : Int) := oD (by first | (with_reducible assumption) | assumption)
             have hx9 := bt_at a0 x3_2
             replace p9 := eq_true p9
             replace q9 := eq_true q9
             have p10 : 0 ≤ (x3_2 : Int) := oD (by first | (with_reducible assumption) | assumption)
             have q10 : x3_2 < (a0.size : Int) := oD (by first | (with_reducible assumption) | assumption)
             have hx10 := bt_at a0 x3_2
             replace p10 := eq_true p10
             replace q10 := eq_true q10
             have p12 : 0 ≤ (x3_2 : Int) := oD (by first | (with_reducible assumption) | assumption)
             have q12 : x3_2 < (a0.size : Int) := oD (by first | (with_reducible assumption) | assumption)
             have hx12 := bt_at a0 x3_2
             replace p12 := eq_true p12
             replace q12 := eq_true q12
             go_wp2
             go_roundg k2
             case measure => have := HJ1.out; have := HK2.out; omega
             case rel => exact ⟨(wrap64 (x3_2 + 1)), (by first | rfl | (simp; done) | (simp [*]; done)), H', ⟨by have := HJ1.out; have := HK2.out; omega⟩, by repeat (first | exact Drawn0.refl _ | apply Drawn0.step)⟩
           ·rw [if_neg c14] at H
            have c14b0 : decide ((bt a0 x3_2) ≤ 57) = false := decide_eq_false c14
            clear c14
            obtain rfl := Option.some.inj H
            have p7 : 0 ≤ (x3_2 : Int) := oD (by first | (with_reducible assumption) | assumption)
            have q7 : x3_2 < (a0.size : Int) := oD (by first | (with_reducible assumption) | assumption)
            have hx7 := bt_at a0 x3_2
            replace p7 := eq_true p7
            replace q7 := eq_true q7
            have p9 : 0 ≤ (x3_2 : Int) := oD (by first | (with_reducible assumption) | assumption)
            have q9 : x3_2 < (a0.size : Int) := oD (by first | (with_reducible assumption) | assumption)
            have hx9 := bt_at a0 x3_2
            replace p9 := eq_true p9
            replace q9 := eq_true q9
            have p10 : 0 ≤ (x3_2 : Int) := oD (by first | (with_reducible assumption) | assumption)
            have q10 : x3_2 < (a0.size : Int) := oD (by first | (with_reducible assumption) | assumption)
            have hx10 := bt_at a0 x3_2
            replace p10 := eq_true p10
            replace q10 := eq_true q10
            have p12 : 0 ≤ (x3_2 : Int) := oD (by first | (with_reducible assumption) | assumption)
            have q12 : x3_2 < (a0.size : Int) := oD (by first | (with_reducible assumption) | assumption)
            have hx12 := bt_at a0 x3_2
            replace p12 := eq_true p12
            replace q12 := eq_true q12
            go_wp2
            go_ret
            exact ⟨by first | rfl | (simp; done) | (simp [*]; done), by repeat (first | exact Drawn0.refl _ | apply Drawn0.step)⟩
         ·rw [if_neg c11] at H
          have c11b0 : decide (48 ≤ (bt a0 x3_2)) = false := decide_eq_false c11
          clear c11
          by_cases c16 : ((bt a0 x3_2) ≤ 122)
          ·rw [if_pos c16] at H
           have c16b0 : decide ((bt a0 x3_2) ≤ 122) = true := decide_eq_true c16
           clear c16
           have H' := Aside0.mk H
           clear H
           have p7 : 0 ≤ (x3_2 : Int) := oD (by first | (with_reducible assumption) | assumption)
           have q7 : x3_2 < (a0.size : Int) := oD (by first | (with_reducible assumption) | assumption)
           have hx7 := bt_at a0 x3_2
           replace p7 := eq_true p7
           replace q7 := eq_true q7
           have p9 : 0 ≤ (x3_2 : Int) := oD (by first | (with_reducible assumption) | assumption)
           have q9 : x3_2 < (a0.size : Int) := oD (by first | (with_reducible assumption) | assumption)
           have hx9 := bt_at a0 x3_2
           replace p9 := eq_true p9
           replace q9 := eq_true q9
           have p10 : 0 ≤ (x3_2 : Int) := oD (by first | (with_reducible assumption) | assumption)
           have q10 : x3_2 < (a0.size : Int) := oD (by first | (with_reducible assumption) | assumption)
           have hx10 := bt_at a0 x3_2
           replace p10 := eq_true p10
           replace q10 := eq_true q10
           go_wp2
           go_roundg k2
           case measure => have := HJ1.out; have := HK2.out; omega
           case rel => exact ⟨(wrap64 (x3_2 + 1)), (by first | rfl | (simp; done) | (simp [*]; done)), H', ⟨by have := HJ1.out; have := HK2.out; omega⟩, by repeat (first | exact Drawn0.refl _ | apply Drawn0.step)⟩
          ·rw [if_neg c16] at H
           have c16b0 : decide ((bt a0 x3_2) ≤ 122) = false := decide_eq_false c16
           clear c16
           obtain rfl := Option.some.inj H
           have p7 : 0 ≤ (x3_2 : Int) := oD (by first | (with_reducible assumption) | assumption)
           have q7 : x3_2 < (a0.size : Int) := oD (by first | (with_reducible assumption) | assumption)
           have hx7 := bt_at a0 x3_2
           replace p7 := eq_true p7
           replace q7 := eq_true q7
           have p9 : 0 ≤ (x3_2 : Int) := oD (by first | (with_reducible assumption) | assumption)
           have q9 : x3_2 < (a0.size : Int) := oD (by first | (with_reducible assumption) | assumption)
           have hx9 := bt_at a0 x3_2
           replace p9 := eq_true p9
           replace q9 := eq_true q9
           have p10 : 0 ≤ (x3_2 : Int) := oD (by first | (with_reducible assumption) | assumption)
           have q10 : x3_2 < (a0.size : Int) := oD (by first | (with_reducible assumption) | assumption)
           have hx10 := bt_at a0 x3_2
           replace p10 := eq_true p10
           replace q10 := eq_true q10
           go_wp2
           go_ret
           exact ⟨by first | rfl | (simp; done) | (simp [*]; done), by repeat (first | exact Drawn0.refl _ | apply Drawn0.step)⟩
        ·rw [if_neg c8] at H
         have c8b0 : decide (97 ≤ (bt a0 x3_2)) = false := decide_eq_false c8
         clear c8
         by_cases c18 : (bt a0 x3_2) ≥ 48
         ·rw [if_pos c18] at H
          have c18b0 : decide (48 ≤ (bt a0 x3_2)) = true := decide_eq_true c18
          clear c18
          by_cases c20 : ((bt a0 x3_2) ≤ 57)
          ·rw [if_pos c20] at H
           have c20b0 : decide ((bt a0 x3_2) ≤ 57) = true := decide_eq_true c20
           clear c20
           by_cases c21 : x3_2 = 0
           ·rw [if_pos c21] at H
            have c21b0 : (x3_2 == 0) = true := beq_iff_eq.mpr c21
            have c21b1 : (x3_2 != 0) = false := bne_eq_false_iff_eq.mpr c21
            clear c21
            obtain rfl := Option.some.inj H
            have p7 : 0 ≤ (x3_2 : Int) := oD (by first | (with_reducible assumption) | assumption)
            have q7 : x3_2 < (a0.size : Int) := oD (by first | (with_reducible assumption) | assumption)
            have hx7 := bt_at a0 x3_2
            replace p7 := eq_true p7
            replace q7 := eq_true q7
            have p17 : 0 ≤ (x3_2 : Int) := oD (by first | (with_reducible assumption) | assumption)
            have q17 : x3_2 < (a0.size : Int) := oD (by first | (with_reducible assumption) | assumption)
            have hx17 := bt_at a0 x3_2
            replace p17 := eq_true p17
            replace q17 := eq_true q17
            have p19 : 0 ≤ (x3_2 : Int) := oD (by first | (with_reducible assumption) | assumption)
            have q19 : x3_2 < (a0.size : Int) := oD (by first | (with_reducible assumption) | assumption)
            have hx19 := bt_at a0 x3_2
            replace p19 := eq_true p19
            replace q19 := eq_true q19
            go_wp2
            go_ret
            exact ⟨by first | rfl | (simp; done) | (simp [*]; done), by repeat (first | exact Drawn0.refl _ | apply Drawn0.step)⟩
           ·rw [if_neg c21] at H
            have c21b0 : (x3_2 == 0) = false := beq_eq_false_iff_ne.mpr c21
            have c21b1 : (x3_2 != 0) = true := bne_iff_ne.mpr c21
            have H' := Aside0.mk H
            clear H
            have p7 : 0 ≤ (x3_2 : Int) := oD (by first | (with_reducible assumption) | assumption)
            have q7 : x3_2 < (a0.size : Int) := oD (by first | (with_reducible assumption) | assumption)
            have hx7 := bt_at a0 x3_2
            replace p7 := eq_true p7
            replace q7 := eq_true q7
            have p17 : 0 ≤ (x3_2 : Int) := oD (by first | (with_reducible assumption) | assumption)
            have q17 : x3_2 < (a0.size : Int) := oD (by first | (with_reducible assumption) | assumption)
            have hx17 := bt_at a0 x3_2
            replace p17 := eq_true p17
            replace q17 := eq_true q17
            have p19 : 0 ≤ (x3_2 : Int) := oD (by first | (with_reducible assumption) | assumption)
            have q19 : x3_2 < (a0.size : Int) := oD (by first | (with_reducible assumption) | assumption)
            have hx19 := bt_at a0 x3_2
            replace p19 := eq_true p19
            replace q19 := eq_true q19
            go_wp2
            go_roundg k2
            case measure => have := HJ1.out; have := HK2.out; omega
            case rel => exact ⟨(wrap64 (x3_2 + 1)), (by first | rfl | (simp; done) | (simp [*]; done)), H', ⟨by have := HJ1.out; have := HK2.out; omega⟩, by repeat (first | exact Drawn0.refl _ | apply Drawn0.step)⟩
          ·rw [if_neg c20] at H
           have c20b0 : decide ((bt a0 x3_2) ≤ 57) = false := decide_eq_false c20
           clear c20
           obtain rfl := Option.some.inj H
           have p7 : 0 ≤ (x3_2 : Int) := oD (by first | (with_reducible assumption) | assumption)
           have q7 : x3_2 < (a0.size : Int) := oD (by first | (with_reducible assumption) | assumption)
           have hx7 := bt_at a0 x3_2
           replace p7 := eq_true p7
           replace q7 := eq_true q7
           have p17 : 0 ≤ (x3_2 : Int) := oD (by first | (with_reducible assumption) | assumption)
           have q17 : x3_2 < (a0.size : Int) := oD (by first | (with_reducible assumption) | assumption)
           have hx17 := bt_at a0 x3_2
           replace p17 := eq_true p17
           replace q17 := eq_true q17
           have p19 : 0 ≤ (x3_2 : Int) := oD (by first | (with_reducible assumption) | assumption)
           have q19 : x3_2 < (a0.size : Int) := oD (by first | (with_reducible assumption) | assumption)
           have hx19 := bt_at a0 x3_2
           replace p19 := eq_true p19
           replace q19 := eq_true q19
           go_wp2
           go_ret
           exact ⟨by first | rfl | (simp; done) | (simp [*]; done), by repeat (first | exact Drawn0.refl _ | apply Drawn0.step)⟩
         ·rw [if_neg c18] at H
          have c18b0 : decide (48 ≤ (bt a0 x3_2)) = false := decide_eq_false c18
          clear c18
          obtain rfl := Option.some.inj H
          have p7 : 0 ≤ (x3_2 : Int) := oD (by first | (with_reducible assumption) | assumption)
          have q7 : x3_2 < (a0.size : Int) := oD (by first | (with_reducible assumption) | assumption)
          have hx7 := bt_at a0 x3_2
          replace p7 := eq_true p7
          replace q7 := eq_true q7
          have p17 : 0 ≤ (x3_2 : Int) := oD (by first | (with_reducible assumption) | assumption)
          have q17 : x3_2 < (a0.size : Int) := oD (by first | (with_reducible assumption) | assumption)
          have hx17 := bt_at a0 x3_2
          replace p17 := eq_true p17
          replace q17 := eq_true q17
          go_wp2
          go_ret
          exact ⟨by first | rfl | (simp; done) | (simp [*]; done), by repeat (first | exact Drawn0.refl _ | apply Drawn0.step)⟩
       ·rw [if_neg c6] at H
        exact absurd H (by simp)
      ·rw [if_neg c5] at H
       have c5b0 : decide (x3_2 < (a0.size : Int)) = false := decide_eq_false c5
       clear c5
       obtain rfl := Option.some.inj H
       go_wp2
       go_ret
       exact ⟨by first | rfl | (simp; done) | (simp [*]; done), by repeat (first | exact Drawn0.refl _ | apply Drawn0.step)⟩
end Go.Proofs.YtoilapjkgligfaaDoor.P
namespace Go.Proofs.YtoilapjkgligfaaDoor.P
open Go.RowKit Go.Proofs.YtoilapjkgligfaaDoorW.PrintWords Go.Proofs.YtoilapjkgligfaaDoorW.PrintLast Go.Proofs.YtoilapjkgligfaaDoorW.PrintMore
attribute [local go_sem] max2_int min2_int max_two min_two max_three min_three max_four min_four 
set_option linter.unusedVariables false
set_option linter.unusedSimpArgs false
mutual
def cubbyref07_Shape.j0 : Nat → List (List (S32)) → Bool → Option (Bool)
 | 0, _, _ => none
 | k + 1, x2, x33 => if x33 = true then (some false) else (cubbyref07_Shape.l0 k x2 0 0)
def cubbyref07_Shape.l0 : Nat → List (List (S32)) → Int → Int → Option (Bool)
 | 0, _, _, _ => none
 | k + 1, x2, x7, x8 => if x8 < (x2.length : Int) then (if 0 ≤ x8 then (if ((rd_LT32 x2 x8).length : Int) = 0 then (some false) else (if ((rd_LT32 x2 x8).length : Int) > 200 then (some false) else (cubbyref07_Shape.l0 k x2 (wrap64 (x7 + ((rd_LT32 x2 x8).length : Int))) (wrap64 (x8 + 1))))) else (none)) else (some (decide (x7 ≤ 200)))
end
def cubbyref07_Shape.f (k : Nat) (a0 : Int) (a1 : Int) (l2 : List (List (S32))) : Option (Bool) := if a0 < 0 then (cubbyref07_Shape.j0 k l2 true) else (if a0 > 4 then (cubbyref07_Shape.j0 k l2 true) else (if a1 < a0 then (cubbyref07_Shape.j0 k l2 true) else (if a1 > 64 then (cubbyref07_Shape.j0 k l2 true) else (if (l2.length : Int) < 1 then (cubbyref07_Shape.j0 k l2 true) else (cubbyref07_Shape.j0 k l2 (decide ((l2.length : Int) > 32)))))))
set_option maxHeartbeats 8000000 in
set_option maxRecDepth 100000 in
theorem cubbyref07_Shape.calls (k : Nat) (a0 : Int) (a1 : Int) (A2 : Option Addr) (c2 : Nat) (l2 : List (List (S32))) (r : Bool) (w : World) (hr2 : Kd.C (Kd.slice 32 k32) w A2 l2.length l2) (hc2 : l2.length ≤ c2) (h : cubbyref07_Shape.f k a0 a1 l2 = some r) :
  Calls Tryd.prog 30 #[.int .i64 a0, .int .i64 a1, .slice A2 l2.length c2] w fun e w' => e = .returned (.bool r) ∧ Drawn0 w w' := by
 have HR2 := Aside0.mk hr2
 have HC2 := Aside0.mk hc2
 clear hr2 hc2
 have H : (if a0 < 0 then (cubbyref07_Shape.j0 k l2 true) else (if a0 > 4 then (cubbyref07_Shape.j0 k l2 true) else (if a1 < a0 then (cubbyref07_Shape.j0 k l2 true) else (if a1 > 64 then (cubbyref07_Shape.j0 k l2 true) else (if (l2.length : Int) < 1 then (cubbyref07_Shape.j0 k l2 true) else (cubbyref07_Shape.j0 k l2 (decide ((l2.length : Int) > 32)))))))) = some r := h
 clear h
 have HC4 := Aside0.mk H
 clear H
 go_enter Tryd.func30, Tryd.ntmps30
 go_upto_region 1 with (fail)
 go_cut [33] (fun v33 wc => ∃ (kq : Nat) (x33_3 : Bool), v33 = .bool x33_3 ∧ Aside0 (cubbyref07_Shape.j0 kq l2 x33_3 = some r) ∧ Aside0 (kq ≤ k) ∧ Drawn0 w wc)
 case first =>
  have H := HC4.out
  clear HC4
  by_cases c5 : a0 < 0
  ·rw [if_pos c5] at H
   have c5b0 : decide (a0 < 0) = true := decide_eq_true c5
   clear c5
   (first | rw [c5b0] | (simp only [i64_w]; rw [c5b0]) | skip)
   have H' := Aside0.mk H
   clear H
   go_wp2
   go_meet
   case rel => exact ⟨_, (true), (by first | rfl | (simp; done) | (simp [*]; done)), H', ⟨by first | omega | exact Nat.le_refl _⟩, by repeat (first | exact Drawn0.refl _ | apply Drawn0.step)⟩
  ·rw [if_neg c5] at H
   have c5b0 : decide (a0 < 0) = false := decide_eq_false c5
   clear c5
   (first | rw [c5b0] | (simp only [i64_w]; rw [c5b0]) | skip)
   by_cases c6 : a0 > 4
   ·rw [if_pos c6] at H
    have c6b0 : decide (4 < a0) = true := decide_eq_true c6
    clear c6
    have H' := Aside0.mk H
    clear H
    go_wp2
    go_meet
    case rel => exact ⟨_, (true), (by first | rfl | (simp; done) | (simp [*]; done)), H', ⟨by first | omega | exact Nat.le_refl _⟩, by repeat (first | exact Drawn0.refl _ | apply Drawn0.step)⟩
   ·rw [if_neg c6] at H
    have c6b0 : decide (4 < a0) = false := decide_eq_false c6
    clear c6
    by_cases c7 : a1 < a0
    ·rw [if_pos c7] at H
     have c7b0 : decide (a1 < a0) = true := decide_eq_true c7
     clear c7
     have H' := Aside0.mk H
     clear H
     go_wp2
     go_meet
     case rel => exact ⟨_, (true), (by first | rfl | (simp; done) | (simp [*]; done)), H', ⟨by first | omega | exact Nat.le_refl _⟩, by repeat (first | exact Drawn0.refl _ | apply Drawn0.step)⟩
    ·rw [if_neg c7] at H
     have c7b0 : decide (a1 < a0) = false := decide_eq_false c7
     clear c7
     by_cases c8 : a1 > 64
     ·rw [if_pos c8] at H
      have c8b0 : decide (64 < a1) = true := decide_eq_true c8
      clear c8
      have H' := Aside0.mk H
      clear H
      go_wp2
      go_meet
      case rel => exact ⟨_, (true), (by first | rfl | (simp; done) | (simp [*]; done)), H', ⟨by first | omega | exact Nat.le_refl _⟩, by repeat (first | exact Drawn0.refl _ | apply Drawn0.step)⟩
     ·rw [if_neg c8] at H
      have c8b0 : decide (64 < a1) = false := decide_eq_false c8
      clear c8
      by_cases c9 : (l2.length : Int) < 1
      ·rw [if_pos c9] at H
       have c9b0 : decide ((l2.length : Int) < 1) = true := decide_eq_true c9
       have c9b1 : decide (l2.length < 1) = true := decide_eq_true (by omega)
       clear c9
       have H' := Aside0.mk H
       clear H
       go_wp2
       go_meet
       case rel => exact ⟨_, (true), (by first | rfl | (simp; done) | (simp [*]; done)), H', ⟨by first | omega | exact Nat.le_refl _⟩, by repeat (first | exact Drawn0.refl _ | apply Drawn0.step)⟩
      ·rw [if_neg c9] at H
       have c9b0 : decide ((l2.length : Int) < 1) = false := decide_eq_false c9
       have c9b1 : decide (l2.length < 1) = false := decide_eq_false (by omega)
       clear c9
       have H' := Aside0.mk H
       clear H
       go_wp2
       go_meet
       case rel => exact ⟨_, (decide ((l2.length : Int) > 32)), (by first | rfl | (simp; done) | (simp [*]; done)), H', ⟨by first | omega | exact Nat.le_refl _⟩, by repeat (first | exact Drawn0.refl _ | apply Drawn0.step)⟩
 case rest =>
  clear HC4
  try clear c2
  try clear p2
  try clear c3
  try clear c5
  try clear c5b0
  try clear c6
  try clear c6b0
  try clear c7
  try clear c7b0
  try clear c8
  try clear c8b0
  try clear c9
  try clear c9b0
  try clear c9b1
  obtain ⟨kq, x33_3, rfl, HA, HJ3, ⟨mc3, rfl⟩⟩ := hcut
  cases kq with
  | zero => exact absurd HA.out (by simp [cubbyref07_Shape.j0])
  | succ kj3 =>
   have H := HA.out
   clear HA
   simp only [cubbyref07_Shape.j0] at H
   by_cases c10 : x33_3 = true
   ·subst c10
    have H1 : (some false) = some r := by rw [if_pos rfl] at H; exact H
    clear H
    have H := H1
    clear H1
    obtain rfl := Option.some.inj H
    go_wp2
    go_ret
    exact ⟨by first | rfl | (simp; done) | (simp [*]; done), by repeat (first | exact Drawn0.refl _ | apply Drawn0.step)⟩
   ·replace c10 := Bool.eq_false_iff.mpr c10
    subst c10
    have H1 : (cubbyref07_Shape.l0 kj3 l2 0 0) = some r := by rw [if_neg (show ¬ (false = true) by decide)] at H; exact H
    clear H
    have H := H1
    clear H1
    have H' := Aside0.mk H
    clear H
    go_wp2
    go_loopg [7, 8] kj3 (fun kq v7 v8 w' => ∃ (x7_2 : Int) (x8_2 : Int), v7 = .int .i64 x7_2 ∧ v8 = .int .i64 x8_2 ∧ Aside0 (cubbyref07_Shape.l0 kq l2 x7_2 x8_2 = some r) ∧ Aside0 (kq ≤ kj3) ∧ Drawn0 w w')
    case atStart => exact ⟨(0), (0), (by first | rfl | (simp; done) | (simp [*]; done)), (by first | rfl | (simp; done) | (simp [*]; done)), H', ⟨Nat.le_refl _⟩, by repeat (first | exact Drawn0.refl _ | apply Drawn0.step)⟩
    case round =>
     clear H'
     try clear c1
     try clear c2
     try clear p2
     try clear c3
     try clear c5
     try clear c5b0
     try clear c6
     try clear c6b0
     try clear c7
     try clear c7b0
     try clear c8
     try clear c8b0
     try clear c9
     try clear c9b0
     try clear c9b1
     try clear c10
     try clear p2
     obtain ⟨x7_2, x8_2, rfl, rfl, HA, HK2, ⟨m2, rfl⟩⟩ := hrel
     cases gk with
     | zero => exact absurd HA.out (by simp [cubbyref07_Shape.l0])
     | succ k2 =>
      have H := HA.out
      clear HA
      simp only [cubbyref07_Shape.l0] at H
      by_cases c11 : x8_2 < (l2.length : Int)
      ·rw [if_pos c11] at H
       have c11b0 : decide (x8_2 < (l2.length : Int)) = true := decide_eq_true c11
       clear c11
       by_cases c12 : 0 ≤ x8_2
       ·rw [if_pos c12] at H
        have c12b0 : decide (0 ≤ x8_2) = true := decide_eq_true c12
        clear c12
        by_cases c13 : ((rd_LT32 l2 x8_2).length : Int) = 0
        ·rw [if_pos c13] at H
         have c13b0 : (((rd_LT32 l2 x8_2).length : Int) == 0) = true := beq_iff_eq.mpr c13
         have c13b1 : (((rd_LT32 l2 x8_2).length : Int) != 0) = false := bne_eq_false_iff_eq.mpr c13
         clear c13
         obtain rfl := Option.some.inj H
         have p101 : 0 ≤ (x8_2 : Int) := oD (by first | (with_reducible assumption) | assumption)
         have q101 : x8_2 < (l2.length : Int) := oD (by first | (with_reducible assumption) | assumption)
         obtain ⟨ad101, A101_0, c101_0, e101, hx101_0, hl101_0, hi101_0⟩ := at_LT32 HR2.out x8_2 p101 q101
         cases e101
         have HR101_0 := Aside0.mk hi101_0
         have HC101_0 := Aside0.mk hl101_0
         clear hi101_0 hl101_0
         replace p101 := eq_true p101
         replace q101 := eq_true q101
         go_wp2
         go_ret
         exact ⟨by first | rfl | (simp; done) | (simp [*]; done), by repeat (first | exact Drawn0.refl _ | apply Drawn0.step)⟩
        ·rw [if_neg c13] at H
         have c13b0 : (((rd_LT32 l2 x8_2).length : Int) == 0) = false := beq_eq_false_iff_ne.mpr c13
         have c13b1 : (((rd_LT32 l2 x8_2).length : Int) != 0) = true := bne_iff_ne.mpr c13
         have c13b2 : ¬ ((rd_LT32 l2 x8_2) = []) := fun h_ => c13 (by rw [h_]; rfl)
         by_cases c14 : ((rd_LT32 l2 x8_2).length : Int) > 200
         ·rw [if_pos c14] at H
          have c14b0 : decide (200 < ((rd_LT32 l2 x8_2).length : Int)) = true := decide_eq_true c14
          have c14b1 : decide (200 < (rd_LT32 l2 x8_2).length) = true := decide_eq_true (by omega)
          clear c14
          obtain rfl := Option.some.inj H
          have p101 : 0 ≤ (x8_2 : Int) := oD (by first | (with_reducible assumption) | assumption)
          have q101 : x8_2 < (l2.length : Int) := oD (by first | (with_reducible assumption) | assumption)
          obtain ⟨ad101, A101_0, c101_0, e101, hx101_0, hl101_0, hi101_0⟩ := at_LT32 HR2.out x8_2 p101 q101
          cases e101
          have HR101_0 := Aside0.mk hi101_0
          have HC101_0 := Aside0.mk hl101_0
          clear hi101_0 hl101_0
          replace p101 := eq_true p101
          replace q101 := eq_true q101
          have p102 : 0 ≤ (x8_2 : Int) := oD (by first | (with_reducible assumption) | assumption)
          have q102 : x8_2 < (l2.length : Int) := oD (by first | (with_reducible assumption) | assumption)
          obtain ⟨ad102, A102_0, c102_0, e102, hx102_0, hl102_0, hi102_0⟩ := at_LT32 HR2.out x8_2 p102 q102
          obtain rfl : ad101 = ad102 := (by injection e102)
          have HR102_0 := Aside0.mk hi102_0
          have HC102_0 := Aside0.mk hl102_0
          clear hi102_0 hl102_0
          replace p102 := eq_true p102
          replace q102 := eq_true q102
          have ea_ := Option.some.inj (hx101_0.symm.trans hx102_0)
          injection ea_ with ea_ en_ ec_
          subst ea_
          subst ec_
          clear en_
          go_wp2
          go_ret
          exact ⟨by first | rfl | (simp; done) | (simp [*]; done), by repeat (first | exact Drawn0.refl _ | apply Drawn0.step)⟩
         ·rw [if_neg c14] at H
          have c14b0 : decide (200 < ((rd_LT32 l2 x8_2).length : Int)) = false := decide_eq_false c14
          have c14b1 : decide (200 < (rd_LT32 l2 x8_2).length) = false := decide_eq_false (by omega)
          clear c14
          have H' := Aside0.mk H
          clear H
          have p101 : 0 ≤ (x8_2 : Int) := oD (by first | (with_reducible assumption) | assumption)
          have q101 : x8_2 < (l2.length : Int) := oD (by first | (with_reducible assumption) | assumption)
          obtain ⟨ad101, A101_0, c101_0, e101, hx101_0, hl101_0, hi101_0⟩ := at_LT32 HR2.out x8_2 p101 q101
          cases e101
          have HR101_0 := Aside0.mk hi101_0
          have HC101_0 := Aside0.mk hl101_0
          clear hi101_0 hl101_0
          replace p101 := eq_true p101
          replace q101 := eq_true q101
          have p102 : 0 ≤ (x8_2 : Int) := oD (by first | (with_reducible assumption) | assumption)
          have q102 : x8_2 < (l2.length : Int) := oD (by first | (with_reducible assumption) | assumption)
          obtain ⟨ad102, A102_0, c102_0, e102, hx102_0, hl102_0, hi102_0⟩ := at_LT32 HR2.out x8_2 p102 q102
          obtain rfl : ad101 = ad102 := (by injection e102)
          have HR102_0 := Aside0.mk hi102_0
          have HC102_0 := Aside0.mk hl102_0
          clear hi102_0 hl102_0
          replace p102 := eq_true p102
          replace q102 := eq_true q102
          have ea_ := Option.some.inj (hx101_0.symm.trans hx102_0)
          injection ea_ with ea_ en_ ec_
          subst ea_
          subst ec_
          clear en_
          have p103 : 0 ≤ (x8_2 : Int) := oD (by first | (with_reducible assumption) | assumption)
          have q103 : x8_2 < (l2.length : Int) := oD (by first | (with_reducible assumption) | assumption)
          obtain ⟨ad103, A103_0, c103_0, e103, hx103_0, hl103_0, hi103_0⟩ := at_LT32 HR2.out x8_2 p103 q103
          obtain rfl : ad101 = ad103 := (by injection e103)
          have HR103_0 := Aside0.mk hi103_0
          have HC103_0 := Aside0.mk hl103_0
          clear hi103_0 hl103_0
          replace p103 := eq_true p103
          replace q103 := eq_true q103
          have ea_ := Option.some.inj (hx101_0.symm.trans hx103_0)
          injection ea_ with ea_ en_ ec_
          subst ea_
          subst ec_
          clear en_
          go_wp2
          go_roundg k2
          case measure => have := HJ3.out; have := HK2.out; omega
          case rel => exact ⟨(wrap64 (x7_2 + ((rd_LT32 l2 x8_2).length : Int))), (wrap64 (x8_2 + 1)), (by first | rfl | (simp; done) | (simp [*]; done)), (by first | rfl | (simp; done) | (simp [*]; done)), H', ⟨by have := HJ3.out; have := HK2.out; omega⟩, by repeat (first | exact Drawn0.refl _ | apply Drawn0.step)⟩
       ·rw [if_neg c12] at H
        exact absurd H (by simp)
      ·rw [if_neg c11] at H
       have c11b0 : decide (x8_2 < (l2.length : Int)) = false := decide_eq_false c11
       clear c11
       obtain rfl := Option.some.inj H
       go_wp2
       go_ret
       exact ⟨by first | rfl | (simp; done) | (simp [*]; done), by repeat (first | exact Drawn0.refl _ | apply Drawn0.step)⟩
end Go.Proofs.YtoilapjkgligfaaDoor.P
