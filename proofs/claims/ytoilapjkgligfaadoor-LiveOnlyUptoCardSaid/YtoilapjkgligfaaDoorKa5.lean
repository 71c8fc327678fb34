import Derived.Test.YtoilapjkgligfaaDoorKP
namespace Go.Proofs.YtoilapjkgligfaaDoor.P
open Go.RowKit Go.Proofs.YtoilapjkgligfaaDoorW.PrintWords Go.Proofs.YtoilapjkgligfaaDoorW.PrintLast Go.Proofs.YtoilapjkgligfaaDoorW.PrintMore
attribute [local go_sem] max2_int min2_int max_two min_two max_three min_three max_four min_four 
set_option linter.unusedVariables false
set_option linter.unusedSimpArgs false
def cubbyref07_Def.f (a0_0 : Int) (a0_1 : Int) (a0_2 : Int) (a0_3 : Int) (a0_4 : ByteArray) (l0_5 : List Int) : Option (Int) := if a0_0 = 1 then (some a0_1) else (if a0_0 = 2 then (some a0_1) else (if a0_0 = 8 then (some a0_1) else (if a0_0 = 3 then (some a0_1) else (if a0_0 = 4 then (some a0_1) else (if a0_0 = 5 then (some a0_1) else (if a0_0 = 6 then (some a0_1) else (if a0_0 = 7 then (some a0_1) else (if a0_0 = 11 then (some a0_1) else (some (-1))))))))))
set_option maxHeartbeats 8000000 in
set_option maxRecDepth 100000 in
theorem cubbyref07_Def.calls (a0_0 : Int) (a0_1 : Int) (a0_2 : Int) (a0_3 : Int) (a0_4 : ByteArray) (A0_5 : Option Addr) (c0_5 : Nat) (l0_5 : List Int) (r : Int) (w : World) (hr0_5 : Kd.C (Kd.int .i64) w A0_5 l0_5.length l0_5) (hc0_5 : l0_5.length ≤ c0_5) (h : cubbyref07_Def.f a0_0 a0_1 a0_2 a0_3 a0_4 l0_5 = some r) :
  Calls Tryd.prog 61 #[.agg #[.int .i64 a0_0, .int .i64 a0_1, .int .i64 a0_2, .int .i64 a0_3, .string a0_4, .slice A0_5 l0_5.length c0_5]] w fun e w' => e = .returned (.int .i64 r) ∧ Below w.heap.size w w' := by
 have hu32 := Tryd.underlying32
 have HR0_5 := Aside0.mk hr0_5
 have HC0_5 := Aside0.mk hc0_5
 clear hr0_5 hc0_5
 have HB := Aside0.mk (Below.refl w.heap.size w)
 have H : (if a0_0 = 1 then (some a0_1) else (if a0_0 = 2 then (some a0_1) else (if a0_0 = 8 then (some a0_1) else (if a0_0 = 3 then (some a0_1) else (if a0_0 = 4 then (some a0_1) else (if a0_0 = 5 then (some a0_1) else (if a0_0 = 6 then (some a0_1) else (if a0_0 = 7 then (some a0_1) else (if a0_0 = 11 then (some a0_1) else (some (-1))))))))))) = some r := h
 clear h
 by_cases c2 : a0_0 = 1
 ·rw [if_pos c2] at H
  have c2b0 : (a0_0 == 1) = true := beq_iff_eq.mpr c2
  have c2b1 : (a0_0 != 1) = false := bne_eq_false_iff_eq.mpr c2
  clear c2
  obtain rfl := Option.some.inj H
  go_enter Tryd.func61, Tryd.ntmps61
  go_wp2_with (first | ((with_reducible refine gate_dst (N := 1) rfl ?_); refine box_event ?hg (N := 1) ?hd (cs := #[.int .i64 a0_0, .int .i64 a0_1, .int .i64 a0_2, .int .i64 a0_3, .string a0_4, .slice A0_5 l0_5.length c0_5]) (t := 32) ?hr ?_; (case hd => rfl); (case hg => rfl); (case hr => first | (go_simp; done) | (go_simp; rfl)); intro gb104 hg w3 hbox hb; have n0_ := Aside0.mk (below_step (by repeat (first | (with_reducible first | exact HB.out | apply bA | apply bN | apply bD) | exact HB.out)) hb); have n1_ := Aside0.mk (hbox); have n2_ := Aside0.mk ((by rw [hg]; exact (below_size (by repeat (first | (with_reducible first | exact HB.out | apply bA | apply bN | apply bD) | exact HB.out))) : w.heap.size ≤ gb104)); have n3_ := Aside0.mk ((by rw [hg]; exact (below_size (by repeat (first | (with_reducible first | exact HB.out | apply bA | apply bN | apply bD) | exact HB.out))) : w.heap.size ≤ gb104)); clear HB; have HB := n0_; have BK104 := n1_; have GW104 := n2_; have GE104 := n3_; clear n0_ n1_ n2_ n3_; clear hb hbox hg; have hcz4_0 : w3.cell? ⟨gb104, 0, none⟩ = some (.int .i64 a0_0) := (bC BK104.out 0).trans rfl; have hcz4_1 : w3.cell? ⟨gb104, 1, none⟩ = some (.int .i64 a0_1) := (bC BK104.out 1).trans rfl; have hcz4_2 : w3.cell? ⟨gb104, 2, none⟩ = some (.int .i64 a0_2) := (bC BK104.out 2).trans rfl; have hcz4_3 : w3.cell? ⟨gb104, 3, none⟩ = some (.int .i64 a0_3) := (bC BK104.out 3).trans rfl; have hcz4_4 : w3.cell? ⟨gb104, 4, none⟩ = some (.string a0_4) := (bC BK104.out 4).trans rfl; have hcz4_5 : w3.cell? ⟨gb104, 5, none⟩ = some (.slice A0_5 l0_5.length c0_5) := (bC BK104.out 5).trans rfl; have hfz4_0 := bZ BK104.out 0; have hfz4_1 := bZ BK104.out 1; have hfz4_2 := bZ BK104.out 2; have hfz4_3 := bZ BK104.out 3; have hfz4_4 := bZ BK104.out 4; have hfz4_5 := bZ BK104.out 5))
  go_ret
  exact ⟨by first | rfl | (simp [errW_none, errW_some] <;> rfl) | (simp [*, errW_none, errW_some] <;> rfl), by repeat (first | (with_reducible first | exact HB.out | apply bA | apply bN | apply bD | refine bS ?_ GE104.out) | exact HB.out)⟩
 ·rw [if_neg c2] at H
  have c2b0 : (a0_0 == 1) = false := beq_eq_false_iff_ne.mpr c2
  have c2b1 : (a0_0 != 1) = true := bne_iff_ne.mpr c2
  by_cases c5 : a0_0 = 2
  ·rw [if_pos c5] at H
   have c5b0 : (a0_0 == 2) = true := beq_iff_eq.mpr c5
   have c5b1 : (a0_0 != 2) = false := bne_eq_false_iff_eq.mpr c5
   clear c5
   obtain rfl := Option.some.inj H
   go_enter Tryd.func61, Tryd.ntmps61
   go_wp2_with (first | ((with_reducible refine gate_dst (N := 1) rfl ?_); refine box_event ?hg (N := 1) ?hd (cs := #[.int .i64 a0_0, .int .i64 a0_1, .int .i64 a0_2, .int .i64 a0_3, .string a0_4, .slice A0_5 l0_5.length c0_5]) (t := 32) ?hr ?_; (case hd => rfl); (case hg => rfl); (case hr => first | (go_simp; done) | (go_simp; rfl)); intro gb104 hg w6 hbox hb; have n0_ := Aside0.mk (below_step (by repeat (first | (with_reducible first | exact HB.out | apply bA | apply bN | apply bD) | exact HB.out)) hb); have n1_ := Aside0.mk (hbox); have n2_ := Aside0.mk ((by rw [hg]; exact (below_size (by repeat (first | (with_reducible first | exact HB.out | apply bA | apply bN | apply bD) | exact HB.out))) : w.heap.size ≤ gb104)); have n3_ := Aside0.mk ((by rw [hg]; exact (below_size (by repeat (first | (with_reducible first | exact HB.out | apply bA | apply bN | apply bD) | exact HB.out))) : w.heap.size ≤ gb104)); clear HB; have HB := n0_; have BK104 := n1_; have GW104 := n2_; have GE104 := n3_; clear n0_ n1_ n2_ n3_; clear hb hbox hg; have hcz7_0 : w6.cell? ⟨gb104, 0, none⟩ = some (.int .i64 a0_0) := (bC BK104.out 0).trans rfl; have hcz7_1 : w6.cell? ⟨gb104, 1, none⟩ = some (.int .i64 a0_1) := (bC BK104.out 1).trans rfl; have hcz7_2 : w6.cell? ⟨gb104, 2, none⟩ = some (.int .i64 a0_2) := (bC BK104.out 2).trans rfl; have hcz7_3 : w6.cell? ⟨gb104, 3, none⟩ = some (.int .i64 a0_3) := (bC BK104.out 3).trans rfl; have hcz7_4 : w6.cell? ⟨gb104, 4, none⟩ = some (.string a0_4) := (bC BK104.out 4).trans rfl; have hcz7_5 : w6.cell? ⟨gb104, 5, none⟩ = some (.slice A0_5 l0_5.length c0_5) := (bC BK104.out 5).trans rfl; have hfz7_0 := bZ BK104.out 0; have hfz7_1 := bZ BK104.out 1; have hfz7_2 := bZ BK104.out 2; have hfz7_3 := bZ BK104.out 3; have hfz7_4 := bZ BK104.out 4; have hfz7_5 := bZ BK104.out 5))
   go_ret
   exact ⟨by first | rfl | (simp [errW_none, errW_some] <;> rfl) | (simp [*, errW_none, errW_some] <;> rfl), by repeat (first | (with_reducible first | exact HB.out | apply bA | apply bN | apply bD | refine bS ?_ GE104.out) | exact HB.out)⟩
  ·rw [if_neg c5] at H
   have c5b0 : (a0_0 == 2) = false := beq_eq_false_iff_ne.mpr c5
   have c5b1 : (a0_0 != 2) = true := bne_iff_ne.mpr c5
   by_cases c8 : a0_0 = 8
   ·rw [if_pos c8] at H
    have c8b0 : (a0_0 == 8) = true := beq_iff_eq.mpr c8
    have c8b1 : (a0_0 != 8) = false := bne_eq_false_iff_eq.mpr c8
    clear c8
    obtain rfl := Option.some.inj H
    go_enter Tryd.func61, Tryd.ntmps61
    go_wp2_with (first | ((with_reducible refine gate_dst (N := 1) rfl ?_); refine box_event ?hg (N := 1) ?hd (cs := #[.int .i64 a0_0, .int .i64 a0_1, .int .i64 a0_2, .int .i64 a0_3, .string a0_4, .slice A0_5 l0_5.length c0_5]) (t := 32) ?hr ?_; (case hd => rfl); (case hg => rfl); (case hr => first | (go_simp; done) | (go_simp; rfl)); intro gb104 hg w9 hbox hb; have n0_ := Aside0.mk (below_step (by repeat (first | (with_reducible first | exact HB.out | apply bA | apply bN | apply bD) | exact HB.out)) hb); have n1_ := Aside0.mk (hbox); have n2_ := Aside0.mk ((by rw [hg]; exact (below_size (by repeat (first | (with_reducible first | exact HB.out | apply bA | apply bN | apply bD) | exact HB.out))) : w.heap.size ≤ gb104)); have n3_ := Aside0.mk ((by rw [hg]; exact (below_size (by repeat (first | (with_reducible first | exact HB.out | apply bA | apply bN | apply bD) | exact HB.out))) : w.heap.size ≤ gb104)); clear HB; have HB := n0_; have BK104 := n1_; have GW104 := n2_; have GE104 := n3_; clear n0_ n1_ n2_ n3_; clear hb hbox hg; have hcz10_0 : w9.cell? ⟨gb104, 0, none⟩ = some (.int .i64 a0_0) := (bC BK104.out 0).trans rfl; have hcz10_1 : w9.cell? ⟨gb104, 1, none⟩ = some (.int .i64 a0_1) := (bC BK104.out 1).trans rfl; have hcz10_2 : w9.cell? ⟨gb104, 2, none⟩ = some (.int .i64 a0_2) := (bC BK104.out 2).trans rfl; have hcz10_3 : w9.cell? ⟨gb104, 3, none⟩ = some (.int .i64 a0_3) := (bC BK104.out 3).trans rfl; have hcz10_4 : w9.cell? ⟨gb104, 4, none⟩ = some (.string a0_4) := (bC BK104.out 4).trans rfl; have hcz10_5 : w9.cell? ⟨gb104, 5, none⟩ = some (.slice A0_5 l0_5.length c0_5) := (bC BK104.out 5).trans rfl; have hfz10_0 := bZ BK104.out 0; have hfz10_1 := bZ BK104.out 1; have hfz10_2 := bZ BK104.out 2; have hfz10_3 := bZ BK104.out 3; have hfz10_4 := bZ BK104.out 4; have hfz10_5 := bZ BK104.out 5))
    go_ret
    exact ⟨by first | rfl | (simp [errW_none, errW_some] <;> rfl) | (simp [*, errW_none, errW_some] <;> rfl), by repeat (first | (with_reducible first | exact HB.out | apply bA | apply bN | apply bD | refine bS ?_ GE104.out) | exact HB.out)⟩
   ·rw [if_neg c8] at H
    have c8b0 : (a0_0 == 8) = false := beq_eq_false_iff_ne.mpr c8
    have c8b1 : (a0_0 != 8) = true := bne_iff_ne.mpr c8
    by_cases c11 : a0_0 = 3
    ·rw [if_pos c11] at H
     have c11b0 : (a0_0 == 3) = true := beq_iff_eq.mpr c11
     have c11b1 : (a0_0 != 3) = false := bne_eq_false_iff_eq.mpr c11
     clear c11
     obtain rfl := Option.some.inj H
     go_enter Tryd.func61, Tryd.ntmps61
     go_wp2_with (first | ((with_reducible refine gate_dst (N := 1) rfl ?_); refine box_event ?hg (N := 1) ?hd (cs := #[.int .i64 a0_0, .int .i64 a0_1, .int .i64 a0_2, .int .i64 a0_3, .string a0_4, .slice A0_5 l0_5.length c0_5]) (t := 32) ?hr ?_; (case hd => rfl); (case hg => rfl); (case hr => first | (go_simp; done) | (go_simp; rfl)); intro gb104 hg w12 hbox hb; have n0_ := Aside0.mk (below_step (by repeat (first | (with_reducible first | exact HB.out | apply bA | apply bN | apply bD) | exact HB.out)) hb); have n1_ := Aside0.mk (hbox); have n2_ := Aside0.mk ((by rw [hg]; exact (below_size (by repeat (first | (with_reducible first | exact HB.out | apply bA | apply bN | apply bD) | exact HB.out))) : w.heap.size ≤ gb104)); have n3_ := Aside0.mk ((by rw [hg]; exact (below_size (by repeat (first | (with_reducible first | exact HB.out | apply bA | apply bN | apply bD) | exact HB.out))) : w.heap.size ≤ gb104)); clear HB; have HB := n0_; have BK104 := n1_; have GW104 := n2_; have GE104 := n3_; clear n0_ n1_ n2_ n3_; clear hb hbox hg; have hcz13_0 : w12.cell? ⟨gb104, 0, none⟩ = some (.int .i64 a0_0) := (bC BK104.out 0).trans rfl; have hcz13_1 : w12.cell? ⟨gb104, 1, none⟩ = some (.int .i64 a0_1) := (bC BK104.out 1).trans rfl; have hcz13_2 : w12.cell? ⟨gb104, 2, none⟩ = some (.int .i64 a0_2) := (bC BK104.out 2).trans rfl; have hcz13_3 : w12.cell? ⟨gb104, 3, none⟩ = some (.int .i64 a0_3) := (bC BK104.out 3).trans rfl; have hcz13_4 : w12.cell? ⟨gb104, 4, none⟩ = some (.string a0_4) := (bC BK104.out 4).trans rfl; have hcz13_5 : w12.cell? ⟨gb104, 5, none⟩ = some (.slice A0_5 l0_5.length c0_5) := (bC BK104.out 5).trans rfl; have hfz13_0 := bZ BK104.out 0; have hfz13_1 := bZ BK104.out 1; have hfz13_2 := bZ BK104.out 2; have hfz13_3 := bZ BK104.out 3; have hfz13_4 := bZ BK104.out 4; have hfz13_5 := bZ BK104.out 5))
     go_ret
     exact ⟨by first | rfl | (simp [errW_none, errW_some] <;> rfl) | (simp [*, errW_none, errW_some] <;> rfl), by repeat (first | (with_reducible first | exact HB.out | apply bA | apply bN | apply bD | refine bS ?_ GE104.out) | exact HB.out)⟩
    ·rw [if_neg c11] at H
     have c11b0 : (a0_0 == 3) = false := beq_eq_false_iff_ne.mpr c11
     have c11b1 : (a0_0 != 3) = true := bne_iff_ne.mpr c11
     by_cases c14 : a0_0 = 4
     ·rw [if_pos c14] at H
      have c14b0 : (a0_0 == 4) = true := beq_iff_eq.mpr c14
      have c14b1 : (a0_0 != 4) = false := bne_eq_false_iff_eq.mpr c14
      clear c14
      obtain rfl := Option.some.inj H
      go_enter Tryd.func61, Tryd.ntmps61
      go_wp2_with (first | ((with_reducible refine gate_dst (N := 1) rfl ?_); refine box_event ?hg (N := 1) ?hd (cs := #[.int .i64 a0_0, .int .i64 a0_1, .int .i64 a0_2, .int .i64 a0_3, .string a0_4, .slice A0_5 l0_5.length c0_5]) (t := 32) ?hr ?_; (case hd => rfl); (case hg => rfl); (case hr => first | (go_simp; done) | (go_simp; rfl)); intro gb104 hg w15 hbox hb; have n0_ := Aside0.mk (below_step (by repeat (first | (with_reducible first | exact HB.out | apply bA | apply bN | apply bD) | exact HB.out)) hb); have n1_ := Aside0.mk (hbox); have n2_ := Aside0.mk ((by rw [hg]; exact (below_size (by repeat (first | (with_reducible first | exact HB.out | apply bA | apply bN | apply bD) | exact HB.out))) : w.heap.size ≤ gb104)); have n3_ := Aside0.mk ((by rw [hg]; exact (below_size (by repeat (first | (with_reducible first | exact HB.out | apply bA | apply bN | apply bD) | exact HB.out))) : w.heap.size ≤ gb104)); clear HB; have HB := n0_; have BK104 := n1_; have GW104 := n2_; have GE104 := n3_; clear n0_ n1_ n2_ n3_; clear hb hbox hg; have hcz16_0 : w15.cell? ⟨gb104, 0, none⟩ = some (.int .i64 a0_0) := (bC BK104.out 0).trans rfl; have hcz16_1 : w15.cell? ⟨gb104, 1, none⟩ = some (.int .i64 a0_1) := (bC BK104.out 1).trans rfl; have hcz16_2 : w15.cell? ⟨gb104, 2, none⟩ = some (.int .i64 a0_2) := (bC BK104.out 2).trans rfl; have hcz16_3 : w15.cell? ⟨gb104, 3, none⟩ = some (.int .i64 a0_3) := (bC BK104.out 3).trans rfl; have hcz16_4 : w15.cell? ⟨gb104, 4, none⟩ = some (.string a0_4) := (bC BK104.out 4).trans rfl; have hcz16_5 : w15.cell? ⟨gb104, 5, none⟩ = some (.slice A0_5 l0_5.length c0_5) := (bC BK104.out 5).trans rfl; have hfz16_0 := bZ BK104.out 0; have hfz16_1 := bZ BK104.out 1; have hfz16_2 := bZ BK104.out 2; have hfz16_3 := bZ BK104.out 3; have hfz16_4 := bZ BK104.out 4; have hfz16_5 := bZ BK104.out 5))
      go_ret
      exact ⟨by first | rfl | (simp [errW_none, errW_some] <;> rfl) | (simp [*, errW_none, errW_some] <;> rfl), by repeat (first | (with_reducible first | exact HB.out | apply bA | apply bN | apply bD | refine bS ?_ GE104.out) | exact HB.out)⟩
     ·rw [if_neg c14] at H
      have c14b0 : (a0_0 == 4) = false := beq_eq_false_iff_ne.mpr c14
      have c14b1 : (a0_0 != 4) = true := bne_iff_ne.mpr c14
      by_cases c17 : a0_0 = 5
      ·rw [if_pos c17] at H
       have c17b0 : (a0_0 == 5) = true := beq_iff_eq.mpr c17
       have c17b1 : (a0_0 != 5) = false := bne_eq_false_iff_eq.mpr c17
       clear c17
       obtain rfl := Option.some.inj H
       go_enter Tryd.func61, Tryd.ntmps61
       go_wp2_with (first | ((with_reducible refine gate_dst (N := 1) rfl ?_); refine box_event ?hg (N := 1) ?hd (cs := #[.int .i64 a0_0, .int .i64 a0_1, .int .i64 a0_2, .int .i64 a0_3, .string a0_4, .slice A0_5 l0_5.length c0_5]) (t := 32) ?hr ?_; (case hd => rfl); (case hg => rfl); (case hr => first | (go_simp; done) | (go_simp; rfl)); intro gb104 hg w18 hbox hb; have n0_ := Aside0.mk (below_step (by repeat (first | (with_reducible first | exact HB.out | apply bA | apply bN | apply bD) | exact HB.out)) hb); have n1_ := Aside0.mk (hbox); have n2_ := Aside0.mk ((by rw [hg]; exact (below_size (by repeat (first | (with_reducible first | exact HB.out | apply bA | apply bN | apply bD) | exact HB.out))) : w.heap.size ≤ gb104)); have n3_ := Aside0.mk ((by rw [hg]; exact (below_size (by repeat (first | (with_reducible first | exact HB.out | apply bA | apply bN | apply bD) | exact HB.out))) : w.heap.size ≤ gb104)); clear HB; have HB := n0_; have BK104 := n1_; have GW104 := n2_; have GE104 := n3_; clear n0_ n1_ n2_ n3_; clear hb hbox hg; have hcz19_0 : w18.cell? ⟨gb104, 0, none⟩ = some (.int .i64 a0_0) := (bC BK104.out 0).trans rfl; have hcz19_1 : w18.cell? ⟨gb104, 1, none⟩ = some (.int .i64 a0_1) := (bC BK104.out 1).trans rfl; have hcz19_2 : w18.cell? ⟨gb104, 2, none⟩ = some (.int .i64 a0_2) := (bC BK104.out 2).trans rfl; have hcz19_3 : w18.cell? ⟨gb104, 3, none⟩ = some (.int .i64 a0_3) := (bC BK104.out 3).trans rfl; have hcz19_4 : w18.cell? ⟨gb104, 4, none⟩ = some (.string a0_4) := (bC BK104.out 4).trans rfl; have hcz19_5 : w18.cell? ⟨gb104, 5, none⟩ = some (.slice A0_5 l0_5.length c0_5) := (bC BK104.out 5).trans rfl; have hfz19_0 := bZ BK104.out 0; have hfz19_1 := bZ BK104.out 1; have hfz19_2 := bZ BK104.out 2; have hfz19_3 := bZ BK104.out 3; have hfz19_4 := bZ BK104.out 4; have hfz19_5 := bZ BK104.out 5))
       go_ret
       exact ⟨by first | rfl | (simp [errW_none, errW_some] <;> rfl) | (simp [*, errW_none, errW_some] <;> rfl), by repeat (first | (with_reducible first | exact HB.out | apply bA | apply bN | apply bD | refine bS ?_ GE104.out) | exact HB.out)⟩
      ·rw [if_neg c17] at H
       have c17b0 : (a0_0 == 5) = false := beq_eq_false_iff_ne.mpr c17
       have c17b1 : (a0_0 != 5) = true := bne_iff_ne.mpr c17
       by_cases c20 : a0_0 = 6
       ·rw [if_pos c20] at H
        have c20b0 : (a0_0 == 6) = true := beq_iff_eq.mpr c20
        have c20b1 : (a0_0 != 6) = false := bne_eq_false_iff_eq.mpr c20
        clear c20
        obtain rfl := Option.some.inj H
        go_enter Tryd.func61, Tryd.ntmps61
        go_wp2_with (first | ((with_reducible refine gate_dst (N := 1) rfl ?_); refine box_event ?hg (N := 1) ?hd (cs := #[.int .i64 a0_0, .int .i64 a0_1, .int .i64 a0_2, .int .i64 a0_3, .string a0_4, .slice A0_5 l0_5.length c0_5]) (t := 32) ?hr ?_; (case hd => rfl); (case hg => rfl); (case hr => first | (go_simp; done) | (go_simp; rfl)); intro gb104 hg w21 hbox hb; have n0_ := Aside0.mk (below_step (by repeat (first | (with_reducible first | exact HB.out | apply bA | apply bN | apply bD) | exact HB.out)) hb); have n1_ := Aside0.mk (hbox); have n2_ := Aside0.mk ((by rw [hg]; exact (below_size (by repeat (first | (with_reducible first | exact HB.out | apply bA | apply bN | apply bD) | exact HB.out))) : w.heap.size ≤ gb104)); have n3_ := Aside0.mk ((by rw [hg]; exact (below_size (by repeat (first | (with_reducible first | exact HB.out | apply bA | apply bN | apply bD) | exact HB.out))) : w.heap.size ≤ gb104)); clear HB; have HB := n0_; have BK104 := n1_; have GW104 := n2_; have GE104 := n3_; clear n0_ n1_ n2_ n3_; clear hb hbox hg; have hcz22_0 : w21.cell? ⟨gb104, 0, none⟩ = some (.int .i64 a0_0) := (bC BK104.out 0).trans rfl; have hcz22_1 : w21.cell? ⟨gb104, 1, none⟩ = some (.int .i64 a0_1) := (bC BK104.out 1).trans rfl; have hcz22_2 : w21.cell? ⟨gb104, 2, none⟩ = some (.int .i64 a0_2) := (bC BK104.out 2).trans rfl; have hcz22_3 : w21.cell? ⟨gb104, 3, none⟩ = some (.int .i64 a0_3) := (bC BK104.out 3).trans rfl; have hcz22_4 : w21.cell? ⟨gb104, 4, none⟩ = some (.string a0_4) := (bC BK104.out 4).trans rfl; have hcz22_5 : w21.cell? ⟨gb104, 5, none⟩ = some (.slice A0_5 l0_5.length c0_5) := (bC BK104.out 5).trans rfl; have hfz22_0 := bZ BK104.out 0; have hfz22_1 := bZ BK104.out 1; have hfz22_2 := bZ BK104.out 2; have hfz22_3 := bZ BK104.out 3; have hfz22_4 := bZ BK104.out 4; have hfz22_5 := bZ BK104.out 5))
        go_ret
        exact ⟨by first | rfl | (simp [errW_none, errW_some] <;> rfl) | (simp [*, errW_none, errW_some] <;> rfl), by repeat (first | (with_reducible first | exact HB.out | apply bA | apply bN | apply bD | refine bS ?_ GE104.out) | exact HB.out)⟩
       ·rw [if_neg c20] at H
        have c20b0 : (a0_0 == 6) = false := beq_eq_false_iff_ne.mpr c20
        have c20b1 : (a0_0 != 6) = true := bne_iff_ne.mpr c20
        by_cases c23 : a0_0 = 7
        ·rw [if_pos c23] at H
         have c23b0 : (a0_0 == 7) = true := beq_iff_eq.mpr c23
         have c23b1 : (a0_0 != 7) = false := bne_eq_false_iff_eq.mpr c23
         clear c23
         obtain rfl := Option.some.inj H
         go_enter Tryd.func61, Tryd.ntmps61
         go_wp2_with (first | ((with_reducible refine gate_dst (N := 1) rfl ?_); refine box_event ?hg (N := 1) ?hd (cs := #[.int .i64 a0_0, .int .i64 a0_1, .int .i64 a0_2, .int .i64 a0_3, .string a0_4, .slice A0_5 l0_5.length c0_5]) (t := 32) ?hr ?_; (case hd => rfl); (case hg => rfl); (case hr => first | (go_simp; done) | (go_simp; rfl)); intro gb104 hg w24 hbox hb; have n0_ := Aside0.mk (below_step (by repeat (first | (with_reducible first | exact HB.out | apply bA | apply bN | apply bD) | exact HB.out)) hb); have n1_ := Aside0.mk (hbox); have n2_ := Aside0.mk ((by rw [hg]; exact (below_size (by repeat (first | (with_reducible first | exact HB.out | apply bA | apply bN | apply bD) | exact HB.out))) : w.heap.size ≤ gb104)); have n3_ := Aside0.mk ((by rw [hg]; exact (below_size (by repeat (first | (with_reducible first | exact HB.out | apply bA | apply bN | apply bD) | exact HB.out))) : w.heap.size ≤ gb104)); clear HB; have HB := n0_; have BK104 := n1_; have GW104 := n2_; have GE104 := n3_; clear n0_ n1_ n2_ n3_; clear hb hbox hg; have hcz25_0 : w24.cell? ⟨gb104, 0, none⟩ = some (.int .i64 a0_0) := (bC BK104.out 0).trans rfl; have hcz25_1 : w24.cell? ⟨gb104, 1, none⟩ = some (.int .i64 a0_1) := (bC BK104.out 1).trans rfl; have hcz25_2 : w24.cell? ⟨gb104, 2, none⟩ = some (.int .i64 a0_2) := (bC BK104.out 2).trans rfl; have hcz25_3 : w24.cell? ⟨gb104, 3, none⟩ = some (.int .i64 a0_3) := (bC BK104.out 3).trans rfl; have hcz25_4 : w24.cell? ⟨gb104, 4, none⟩ = some (.string a0_4) := (bC BK104.out 4).trans rfl; have hcz25_5 : w24.cell? ⟨gb104, 5, none⟩ = some (.slice A0_5 l0_5.length c0_5) := (bC BK104.out 5).trans rfl; have hfz25_0 := bZ BK104.out 0; have hfz25_1 := bZ BK104.out 1; have hfz25_2 := bZ BK104.out 2; have hfz25_3 := bZ BK104.out 3; have hfz25_4 := bZ BK104.out 4; have hfz25_5 := bZ BK104.out 5))
         go_ret
         exact ⟨by first | rfl | (simp [errW_none, errW_some] <;> rfl) | (simp [*, errW_none, errW_some] <;> rfl), by repeat (first | (with_reducible first | exact HB.out | apply bA | apply bN | apply bD | refine bS ?_ GE104.out) | exact HB.out)⟩
        ·rw [if_neg c23] at H
         have c23b0 : (a0_0 == 7) = false := beq_eq_false_iff_ne.mpr c23
         have c23b1 : (a0_0 != 7) = true := bne_iff_ne.mpr c23
         by_cases c26 : a0_0 = 11
         ·rw [if_pos c26] at H
          have c26b0 : (a0_0 == 11) = true := beq_iff_eq.mpr c26
          have c26b1 : (a0_0 != 11) = false := bne_eq_false_iff_eq.mpr c26
          clear c26
          obtain rfl := Option.some.inj H
          go_enter Tryd.func61, Tryd.ntmps61
          go_wp2_with (first | ((with_reducible refine gate_dst (N := 1) rfl ?_); refine box_event ?hg (N := 1) ?hd (cs := #[.int .i64 a0_0, .int .i64 a0_1, .int .i64 a0_2, .int .i64 a0_3, .string a0_4, .slice A0_5 l0_5.length c0_5]) (t := 32) ?hr ?_; (case hd => rfl); (case hg => rfl); (case hr => first | (go_simp; done) | (go_simp; rfl)); intro gb104 hg w27 hbox hb; have n0_ := Aside0.mk (below_step (by repeat (first | (with_reducible first | exact HB.out | apply bA | apply bN | apply bD) | exact HB.out)) hb); have n1_ := Aside0.mk (hbox); have n2_ := Aside0.mk ((by rw [hg]; exact (below_size (by repeat (first | (with_reducible first | exact HB.out | apply bA | apply bN | apply bD) | exact HB.out))) : w.heap.size ≤ gb104)); have n3_ := Aside0.mk ((by rw [hg]; exact (below_size (by repeat (first | (with_reducible first | exact HB.out | apply bA | apply bN | apply bD) | exact HB.out))) : w.heap.size ≤ gb104)); clear HB; have HB := n0_; have BK104 := n1_; have GW104 := n2_; have GE104 := n3_; clear n0_ n1_ n2_ n3_; clear hb hbox hg; have hcz28_0 : w27.cell? ⟨gb104, 0, none⟩ = some (.int .i64 a0_0) := (bC BK104.out 0).trans rfl; have hcz28_1 : w27.cell? ⟨gb104, 1, none⟩ = some (.int .i64 a0_1) := (bC BK104.out 1).trans rfl; have hcz28_2 : w27.cell? ⟨gb104, 2, none⟩ = some (.int .i64 a0_2) := (bC BK104.out 2).trans rfl; have hcz28_3 : w27.cell? ⟨gb104, 3, none⟩ = some (.int .i64 a0_3) := (bC BK104.out 3).trans rfl; have hcz28_4 : w27.cell? ⟨gb104, 4, none⟩ = some (.string a0_4) := (bC BK104.out 4).trans rfl; have hcz28_5 : w27.cell? ⟨gb104, 5, none⟩ = some (.slice A0_5 l0_5.length c0_5) := (bC BK104.out 5).trans rfl; have hfz28_0 := bZ BK104.out 0; have hfz28_1 := bZ BK104.out 1; have hfz28_2 := bZ BK104.out 2; have hfz28_3 := bZ BK104.out 3; have hfz28_4 := bZ BK104.out 4; have hfz28_5 := bZ BK104.out 5))
          go_ret
          exact ⟨by first | rfl | (simp [errW_none, errW_some] <;> rfl) | (simp [*, errW_none, errW_some] <;> rfl), by repeat (first | (with_reducible first | exact HB.out | apply bA | apply bN | apply bD | refine bS ?_ GE104.out) | exact HB.out)⟩
         ·rw [if_neg c26] at H
          have c26b0 : (a0_0 == 11) = false := beq_eq_false_iff_ne.mpr c26
          have c26b1 : (a0_0 != 11) = true := bne_iff_ne.mpr c26
          obtain rfl := Option.some.inj H
          go_enter Tryd.func61, Tryd.ntmps61
          go_wp2_with (first | ((with_reducible refine gate_dst (N := 1) rfl ?_); refine box_event ?hg (N := 1) ?hd (cs := #[.int .i64 a0_0, .int .i64 a0_1, .int .i64 a0_2, .int .i64 a0_3, .string a0_4, .slice A0_5 l0_5.length c0_5]) (t := 32) ?hr ?_; (case hd => rfl); (case hg => rfl); (case hr => first | (go_simp; done) | (go_simp; rfl)); intro gb104 hg w29 hbox hb; have n0_ := Aside0.mk (below_step (by repeat (first | (with_reducible first | exact HB.out | apply bA | apply bN | apply bD) | exact HB.out)) hb); have n1_ := Aside0.mk (hbox); have n2_ := Aside0.mk ((by rw [hg]; exact (below_size (by repeat (first | (with_reducible first | exact HB.out | apply bA | apply bN | apply bD) | exact HB.out))) : w.heap.size ≤ gb104)); have n3_ := Aside0.mk ((by rw [hg]; exact (below_size (by repeat (first | (with_reducible first | exact HB.out | apply bA | apply bN | apply bD) | exact HB.out))) : w.heap.size ≤ gb104)); clear HB; have HB := n0_; have BK104 := n1_; have GW104 := n2_; have GE104 := n3_; clear n0_ n1_ n2_ n3_; clear hb hbox hg; have hcz30_0 : w29.cell? ⟨gb104, 0, none⟩ = some (.int .i64 a0_0) := (bC BK104.out 0).trans rfl; have hcz30_1 : w29.cell? ⟨gb104, 1, none⟩ = some (.int .i64 a0_1) := (bC BK104.out 1).trans rfl; have hcz30_2 : w29.cell? ⟨gb104, 2, none⟩ = some (.int .i64 a0_2) := (bC BK104.out 2).trans rfl; have hcz30_3 : w29.cell? ⟨gb104, 3, none⟩ = some (.int .i64 a0_3) := (bC BK104.out 3).trans rfl; have hcz30_4 : w29.cell? ⟨gb104, 4, none⟩ = some (.string a0_4) := (bC BK104.out 4).trans rfl; have hcz30_5 : w29.cell? ⟨gb104, 5, none⟩ = some (.slice A0_5 l0_5.length c0_5) := (bC BK104.out 5).trans rfl; have hfz30_0 := bZ BK104.out 0; have hfz30_1 := bZ BK104.out 1; have hfz30_2 := bZ BK104.out 2; have hfz30_3 := bZ BK104.out 3; have hfz30_4 := bZ BK104.out 4; have hfz30_5 := bZ BK104.out 5))
          go_ret
          exact ⟨by first | rfl | (simp [errW_none, errW_some] <;> rfl) | (simp [*, errW_none, errW_some] <;> rfl), by repeat (first | (with_reducible first | exact HB.out | apply bA | apply bN | apply bD | refine bS ?_ GE104.out) | exact HB.out)⟩
end Go.Proofs.YtoilapjkgligfaaDoor.P
namespace Go.Proofs.YtoilapjkgligfaaDoor.P
open Go.RowKit Go.Proofs.YtoilapjkgligfaaDoorW.PrintWords Go.Proofs.YtoilapjkgligfaaDoorW.PrintLast Go.Proofs.YtoilapjkgligfaaDoorW.PrintMore
attribute [local go_sem] max2_int min2_int max_two min_two max_three min_three max_four min_four 
set_option linter.unusedVariables false
set_option linter.unusedSimpArgs false
def cubbyref07_Last.f (a0 : Int) : Option (Bool) := if a0 = 12 then (some true) else (if a0 = 13 then (some true) else (some (a0 == 14)))
set_option maxHeartbeats 8000000 in
set_option maxRecDepth 100000 in
theorem cubbyref07_Last.calls (a0 : Int) (r : Bool) (w : World) (h : cubbyref07_Last.f a0 = some r) :
  Calls Tryd.prog 66 #[.int .i64 a0] w fun e w' => e = .returned (.bool r) ∧ Drawn0 w w' := by
 have H : (if a0 = 12 then (some true) else (if a0 = 13 then (some true) else (some (a0 == 14)))) = some r := h
 clear h
 by_cases c2 : a0 = 12
 ·rw [if_pos c2] at H
  have c2b0 : (a0 == 12) = true := beq_iff_eq.mpr c2
  have c2b1 : (a0 != 12) = false := bne_eq_false_iff_eq.mpr c2
  clear c2
  obtain rfl := Option.some.inj H
  go_enter Tryd.func66, Tryd.ntmps66
  go_wp2
  go_ret
  exact ⟨by first | rfl | (simp; done) | (simp [*]; done), by repeat (first | exact Drawn0.refl _ | apply Drawn0.step)⟩
 ·rw [if_neg c2] at H
  have c2b0 : (a0 == 12) = false := beq_eq_false_iff_ne.mpr c2
  have c2b1 : (a0 != 12) = true := bne_iff_ne.mpr c2
  by_cases c3 : a0 = 13
  ·rw [if_pos c3] at H
   have c3b0 : (a0 == 13) = true := beq_iff_eq.mpr c3
   have c3b1 : (a0 != 13) = false := bne_eq_false_iff_eq.mpr c3
   clear c3
   obtain rfl := Option.some.inj H
   go_enter Tryd.func66, Tryd.ntmps66
   go_wp2
   go_ret
   exact ⟨by first | rfl | (simp; done) | (simp [*]; done), by repeat (first | exact Drawn0.refl _ | apply Drawn0.step)⟩
  ·rw [if_neg c3] at H
   have c3b0 : (a0 == 13) = false := beq_eq_false_iff_ne.mpr c3
   have c3b1 : (a0 != 13) = true := bne_iff_ne.mpr c3
   obtain rfl := Option.some.inj H
   go_enter Tryd.func66, Tryd.ntmps66
   go_wp2
   go_ret
   exact ⟨by first | rfl | (simp; done) | (simp [*]; done), by repeat (first | exact Drawn0.refl _ | apply Drawn0.step)⟩
end Go.Proofs.YtoilapjkgligfaaDoor.P
namespace Go.Proofs.YtoilapjkgligfaaDoor.P
open Go.RowKit Go.Proofs.YtoilapjkgligfaaDoorW.PrintWords Go.Proofs.YtoilapjkgligfaaDoorW.PrintLast Go.Proofs.YtoilapjkgligfaaDoorW.PrintMore
attribute [local go_sem] max2_int min2_int max_two min_two max_three min_three max_four min_four 
set_option linter.unusedVariables false
set_option linter.unusedSimpArgs false
mutual
def cubbyref07_bare.j0 : Nat → Bool → Int → Int → Int → Int → ByteArray → List Int → Option (Bool)
 | 0, _, _, _, _, _, _, _ => none
 | k + 1, x16, y0, y1, y2, y3, y4, y5 => if x16 = true then (some false) else (if y0 = 1 then (cubbyref07_bare.j1 k y0 (y0 == 1) y0 y1 y2 y3 y4 y5) else (if y0 = 2 then (cubbyref07_bare.j1 k y0 (y0 == 2) y0 y1 y2 y3 y4 y5) else (cubbyref07_bare.j1 k y0 (y0 == 8) y0 y1 y2 y3 y4 y5)))
def cubbyref07_bare.j1 : Nat → Int → Bool → Int → Int → Int → Int → ByteArray → List Int → Option (Bool)
 | 0, _, _, _, _, _, _, _, _ => none
 | k + 1, x18, x19, y0, y1, y2, y3, y4, y5 => if x19 = true then (some (y3 == 0)) else (if x18 = 3 then (cubbyref07_bare.j2 k x18 (x18 == 3) y0 y1 y2 y3 y4 y5) else (if x18 = 4 then (cubbyref07_bare.j2 k x18 (x18 == 4) y0 y1 y2 y3 y4 y5) else (if x18 = 5 then (cubbyref07_bare.j2 k x18 (x18 == 5) y0 y1 y2 y3 y4 y5) else (if x18 = 6 then (cubbyref07_bare.j2 k x18 (x18 == 6) y0 y1 y2 y3 y4 y5) else (if x18 = 7 then (cubbyref07_bare.j2 k x18 (x18 == 7) y0 y1 y2 y3 y4 y5) else (cubbyref07_bare.j2 k x18 (x18 == 13) y0 y1 y2 y3 y4 y5))))))
def cubbyref07_bare.j2 : Nat → Int → Bool → Int → Int → Int → Int → ByteArray → List Int → Option (Bool)
 | 0, _, _, _, _, _, _, _, _ => none
 | k + 1, x18, x26, y0, y1, y2, y3, y4, y5 => if x26 = true then (some true) else (if x18 = 9 then (some (y1 == 0)) else (if x18 = 10 then (cubbyref07_bare.j3 k x18 (x18 == 10) y0 y1 y2 y3 y4 y5) else (if x18 = 14 then (cubbyref07_bare.j3 k x18 (x18 == 14) y0 y1 y2 y3 y4 y5) else (cubbyref07_bare.j3 k x18 (x18 == 12) y0 y1 y2 y3 y4 y5))))
def cubbyref07_bare.j3 : Nat → Int → Bool → Int → Int → Int → Int → ByteArray → List Int → Option (Bool)
 | 0, _, _, _, _, _, _, _, _ => none
 | k + 1, x18, x38, y0, y1, y2, y3, y4, y5 => if x38 = true then (if y1 = 0 then (some (y3 == 0)) else (some false)) else (if x18 = 11 then (if y2 = 0 then (some (y3 == 0)) else (some false)) else (some false))
end
def cubbyref07_bare.f (k : Nat) (a0_0 : Int) (a0_1 : Int) (a0_2 : Int) (a0_3 : Int) (a0_4 : ByteArray) (l0_5 : List Int) : Option (Bool) := if a0_0 = 11 then (cubbyref07_bare.j0 k false a0_0 a0_1 a0_2 a0_3 a0_4 l0_5) else (if a0_4.toList = ([] : List UInt8) then (cubbyref07_bare.j0 k (decide ((l0_5.length : Int) > 0)) a0_0 a0_1 a0_2 a0_3 a0_4 l0_5) else (cubbyref07_bare.j0 k true a0_0 a0_1 a0_2 a0_3 a0_4 l0_5))
set_option maxHeartbeats 8000000 in
set_option maxRecDepth 100000 in
theorem cubbyref07_bare.calls (k : Nat) (a0_0 : Int) (a0_1 : Int) (a0_2 : Int) (a0_3 : Int) (a0_4 : ByteArray) (A0_5 : Option Addr) (c0_5 : Nat) (l0_5 : List Int) (r : Bool) (w : World) (hr0_5 : Kd.C (Kd.int .i64) w A0_5 l0_5.length l0_5) (hc0_5 : l0_5.length ≤ c0_5) (h : cubbyref07_bare.f k a0_0 a0_1 a0_2 a0_3 a0_4 l0_5 = some r) :
  Calls Tryd.prog 67 #[.agg #[.int .i64 a0_0, .int .i64 a0_1, .int .i64 a0_2, .int .i64 a0_3, .string a0_4, .slice A0_5 l0_5.length c0_5]] w fun e w' => e = .returned (.bool r) ∧ Below w.heap.size w w' := by
 have hu32 := Tryd.underlying32
 have HR0_5 := Aside0.mk hr0_5
 have HC0_5 := Aside0.mk hc0_5
 clear hr0_5 hc0_5
 have HB := Aside0.mk (Below.refl w.heap.size w)
 have H : (if a0_0 = 11 then (cubbyref07_bare.j0 k false a0_0 a0_1 a0_2 a0_3 a0_4 l0_5) else (if a0_4.toList = ([] : List UInt8) then (cubbyref07_bare.j0 k (decide ((l0_5.length : Int) > 0)) a0_0 a0_1 a0_2 a0_3 a0_4 l0_5) else (cubbyref07_bare.j0 k true a0_0 a0_1 a0_2 a0_3 a0_4 l0_5))) = some r := h
 clear h
 have HC2 := Aside0.mk H
 clear H
 go_enter Tryd.func67, Tryd.ntmps67
 go_upto_region 1 with (first | ((with_reducible refine gate_dst (N := 1) rfl ?_); (try (refine gate_guard (by rfl) ?_; dsimp only)); refine box_event ?hg (N := 1) ?hd (cs := #[.int .i64 a0_0, .int .i64 a0_1, .int .i64 a0_2, .int .i64 a0_3, .string a0_4, .slice A0_5 l0_5.length c0_5]) (t := 32) ?hr ?_; (case hd => rfl); (case hg => rfl); (case hr => first | (go_simp; done) | (go_simp; rfl)); intro gb105 hg w3 hbox hb; have n0_ := Aside0.mk (below_step (by repeat (first | (with_reducible first | exact HB.out | apply bA | apply bN | apply bD) | exact HB.out)) hb); have n1_ := Aside0.mk (hbox); have n2_ := Aside0.mk ((by rw [hg]; exact (below_size (by repeat (first | (with_reducible first | exact HB.out | apply bA | apply bN | apply bD) | exact HB.out))) : w.heap.size ≤ gb105)); have n3_ := Aside0.mk ((by rw [hg]; exact (below_size (by repeat (first | (with_reducible first | exact HB.out | apply bA | apply bN | apply bD) | exact HB.out))) : w.heap.size ≤ gb105)); clear HB; have HB := n0_; have BK105 := n1_; have GW105 := n2_; have GE105 := n3_; clear n0_ n1_ n2_ n3_; clear hb hbox hg))
 (try simp only [Act.put, List.setIfInBounds_toArray, List.set_cons_zero, List.set_cons_succ])
 go_cut [16] (fun v16 wc => ∃ (kq : Nat) (x16_1 : Bool), v16 = .bool x16_1 ∧ Aside0 (cubbyref07_bare.j0 kq x16_1 a0_0 a0_1 a0_2 a0_3 a0_4 l0_5 = some r) ∧ Aside0 (kq ≤ k) ∧ Aside0 (wc.heap[gb105]? = some (.cells #[.int .i64 a0_0, .int .i64 a0_1, .int .i64 a0_2, .int .i64 a0_3, .string a0_4, (.slice A0_5 l0_5.length c0_5)] 32 (0, 0))) ∧ Aside0 (Below w.heap.size w wc))
 case first =>
  have H := HC2.out
  clear HC2
  by_cases c4 : a0_0 = 11
  ·rw [if_pos c4] at H
   have c4b0 : (a0_0 == 11) = true := beq_iff_eq.mpr c4
   have c4b1 : (a0_0 != 11) = false := bne_eq_false_iff_eq.mpr c4
   clear c4
   (first | rw [c4b0] | (simp only [i64_w]; rw [c4b0]) | skip)
   have H' := Aside0.mk H
   clear H
   have hcz5_0 : w3.cell? ⟨gb105, 0, none⟩ = some (.int .i64 a0_0) := (bC BK105.out 0).trans rfl
   have hcz5_1 : w3.cell? ⟨gb105, 1, none⟩ = some (.int .i64 a0_1) := (bC BK105.out 1).trans rfl
   have hcz5_2 : w3.cell? ⟨gb105, 2, none⟩ = some (.int .i64 a0_2) := (bC BK105.out 2).trans rfl
   have hcz5_3 : w3.cell? ⟨gb105, 3, none⟩ = some (.int .i64 a0_3) := (bC BK105.out 3).trans rfl
   have hcz5_4 : w3.cell? ⟨gb105, 4, none⟩ = some (.string a0_4) := (bC BK105.out 4).trans rfl
   have hcz5_5 : w3.cell? ⟨gb105, 5, none⟩ = some (.slice A0_5 l0_5.length c0_5) := (bC BK105.out 5).trans rfl
   have hfz5_0 := bZ BK105.out 0
   have hfz5_1 := bZ BK105.out 1
   have hfz5_2 := bZ BK105.out 2
   have hfz5_3 := bZ BK105.out 3
   have hfz5_4 := bZ BK105.out 4
   have hfz5_5 := bZ BK105.out 5
   go_wp2
   go_meet
   case rel => exact ⟨_, (false), (by first | rfl | (simp; done) | (simp [*]; done)), H', ⟨by first | omega | exact Nat.le_refl _⟩, ⟨by (with_reducible repeat (first | refine kN ?_ _ | refine blk_drew ?_ | refine kA ?_ _)); exact BK105.out⟩, ⟨by repeat (first | (with_reducible first | exact HB.out | apply bA | apply bN | apply bD | refine bS ?_ GE105.out) | exact HB.out)⟩⟩
  ·rw [if_neg c4] at H
   have c4b0 : (a0_0 == 11) = false := beq_eq_false_iff_ne.mpr c4
   have c4b1 : (a0_0 != 11) = true := bne_iff_ne.mpr c4
   (first | rw [c4b0] | (simp only [i64_w]; rw [c4b0]) | skip)
   by_cases c6 : a0_4.toList = ([] : List UInt8)
   ·rw [if_pos c6] at H
    have c6b0 : (a0_4.toList == ([] : List UInt8)) = true := beq_iff_eq.mpr c6
    have c6b1 : (a0_4.toList != ([] : List UInt8)) = false := bne_eq_false_iff_eq.mpr c6
    clear c6
    have H' := Aside0.mk H
    clear H
    have hcz7_0 : w3.cell? ⟨gb105, 0, none⟩ = some (.int .i64 a0_0) := (bC BK105.out 0).trans rfl
    have hcz7_1 : w3.cell? ⟨gb105, 1, none⟩ = some (.int .i64 a0_1) := (bC BK105.out 1).trans rfl
    have hcz7_2 : w3.cell? ⟨gb105, 2, none⟩ = some (.int .i64 a0_2) := (bC BK105.out 2).trans rfl
    have hcz7_3 : w3.cell? ⟨gb105, 3, none⟩ = some (.int .i64 a0_3) := (bC BK105.out 3).trans rfl
    have hcz7_4 : w3.cell? ⟨gb105, 4, none⟩ = some (.string a0_4) := (bC BK105.out 4).trans rfl
    have hcz7_5 : w3.cell? ⟨gb105, 5, none⟩ = some (.slice A0_5 l0_5.length c0_5) := (bC BK105.out 5).trans rfl
    have hfz7_0 := bZ BK105.out 0
    have hfz7_1 := bZ BK105.out 1
    have hfz7_2 := bZ BK105.out 2
    have hfz7_3 := bZ BK105.out 3
    have hfz7_4 := bZ BK105.out 4
    have hfz7_5 := bZ BK105.out 5
    go_wp2
    go_meet
    case rel => exact ⟨_, (decide ((l0_5.length : Int) > 0)), (by first | rfl | (simp; done) | (simp [*]; done)), H', ⟨by first | omega | exact Nat.le_refl _⟩, ⟨by (with_reducible repeat (first | refine kN ?_ _ | refine blk_drew ?_ | refine kA ?_ _)); exact BK105.out⟩, ⟨by repeat (first | (with_reducible first | exact HB.out | apply bA | apply bN | apply bD | refine bS ?_ GE105.out) | exact HB.out)⟩⟩
   ·rw [if_neg c6] at H
    have c6b0 : (a0_4.toList == ([] : List UInt8)) = false := beq_eq_false_iff_ne.mpr c6
    have c6b1 : (a0_4.toList != ([] : List UInt8)) = true := bne_iff_ne.mpr c6
    have H' := Aside0.mk H
    clear H
    have hcz8_0 : w3.cell? ⟨gb105, 0, none⟩ = some (.int .i64 a0_0) := (bC BK105.out 0).trans rfl
    have hcz8_1 : w3.cell? ⟨gb105, 1, none⟩ = some (.int .i64 a0_1) := (bC BK105.out 1).trans rfl
    have hcz8_2 : w3.cell? ⟨gb105, 2, none⟩ = some (.int .i64 a0_2) := (bC BK105.out 2).trans rfl
    have hcz8_3 : w3.cell? ⟨gb105, 3, none⟩ = some (.int .i64 a0_3) := (bC BK105.out 3).trans rfl
    have hcz8_4 : w3.cell? ⟨gb105, 4, none⟩ = some (.string a0_4) := (bC BK105.out 4).trans rfl
    have hcz8_5 : w3.cell? ⟨gb105, 5, none⟩ = some (.slice A0_5 l0_5.length c0_5) := (bC BK105.out 5).trans rfl
    have hfz8_0 := bZ BK105.out 0
    have hfz8_1 := bZ BK105.out 1
    have hfz8_2 := bZ BK105.out 2
    have hfz8_3 := bZ BK105.out 3
    have hfz8_4 := bZ BK105.out 4
    have hfz8_5 := bZ BK105.out 5
    go_wp2
    go_meet
    case rel => exact ⟨_, (true), (by first | rfl | (simp; done) | (simp [*]; done)), H', ⟨by first | omega | exact Nat.le_refl _⟩, ⟨by (with_reducible repeat (first | refine kN ?_ _ | refine blk_drew ?_ | refine kA ?_ _)); exact BK105.out⟩, ⟨by repeat (first | (with_reducible first | exact HB.out | apply bA | apply bN | apply bD | refine bS ?_ GE105.out) | exact HB.out)⟩⟩
 case rest =>
  clear HC2
  try clear p2
  try clear c4
  try clear c4b0
  try clear c4b1
  try clear c6
  try clear c6b0
  try clear c6b1
  try clear hcz5_0
  try clear hcz5_1
  try clear hcz5_2
  try clear hcz5_3
  try clear hcz5_4
  try clear hcz5_5
  try clear hcz7_0
  try clear hcz7_1
  try clear hcz7_2
  try clear hcz7_3
  try clear hcz7_4
  try clear hcz7_5
  try clear hcz8_0
  try clear hcz8_1
  try clear hcz8_2
  try clear hcz8_3
  try clear hcz8_4
  try clear hcz8_5
  try clear hfz5_0
  try clear hfz5_1
  try clear hfz5_2
  try clear hfz5_3
  try clear hfz5_4
  try clear hfz5_5
  try clear hfz7_0
  try clear hfz7_1
  try clear hfz7_2
  try clear hfz7_3
  try clear hfz7_4
  try clear hfz7_5
  try clear hfz8_0
  try clear hfz8_1
  try clear hfz8_2
  try clear hfz8_3
  try clear hfz8_4
  try clear hfz8_5
  obtain ⟨kq, x16_1, rfl, HA, HJ1, BK105, HB⟩ := hcut
  cases kq with
  | zero => exact absurd HA.out (by simp [cubbyref07_bare.j0])
  | succ kj1 =>
   have H := HA.out
   clear HA
   simp only [cubbyref07_bare.j0] at H
   by_cases c9 : x16_1 = true
   ·subst c9
    have H1 : (some false) = some r := by rw [if_pos rfl] at H; exact H
    clear H
    have H := H1
    clear H1
    obtain rfl := Option.some.inj H
    go_wp2
    go_ret
    exact ⟨by first | rfl | (simp [errW_none, errW_some] <;> rfl) | (simp [*, errW_none, errW_some] <;> rfl), by repeat (first | (with_reducible first | exact HB.out | apply bA | apply bN | apply bD | refine bS ?_ GE105.out) | exact HB.out)⟩
   ·replace c9 := Bool.eq_false_iff.mpr c9
    subst c9
    have H1 : (if a0_0 = 1 then (cubbyref07_bare.j1 kj1 a0_0 (a0_0 == 1) a0_0 a0_1 a0_2 a0_3 a0_4 l0_5) else (if a0_0 = 2 then (cubbyref07_bare.j1 kj1 a0_0 (a0_0 == 2) a0_0 a0_1 a0_2 a0_3 a0_4 l0_5) else (cubbyref07_bare.j1 kj1 a0_0 (a0_0 == 8) a0_0 a0_1 a0_2 a0_3 a0_4 l0_5))) = some r := by rw [if_neg (show ¬ (false = true) by decide)] at H; exact H
    clear H
    have H := H1
    clear H1
    have HC10 := Aside0.mk H
    clear H
    have hcz11_0 : wc.cell? ⟨gb105, 0, none⟩ = some (.int .i64 a0_0) := (bC BK105.out 0).trans rfl
    have hcz11_1 : wc.cell? ⟨gb105, 1, none⟩ = some (.int .i64 a0_1) := (bC BK105.out 1).trans rfl
    have hcz11_2 : wc.cell? ⟨gb105, 2, none⟩ = some (.int .i64 a0_2) := (bC BK105.out 2).trans rfl
    have hcz11_3 : wc.cell? ⟨gb105, 3, none⟩ = some (.int .i64 a0_3) := (bC BK105.out 3).trans rfl
    have hcz11_4 : wc.cell? ⟨gb105, 4, none⟩ = some (.string a0_4) := (bC BK105.out 4).trans rfl
    have hcz11_5 : wc.cell? ⟨gb105, 5, none⟩ = some (.slice A0_5 l0_5.length c0_5) := (bC BK105.out 5).trans rfl
    have hfz11_0 := bZ BK105.out 0
    have hfz11_1 := bZ BK105.out 1
    have hfz11_2 := bZ BK105.out 2
    have hfz11_3 := bZ BK105.out 3
    have hfz11_4 := bZ BK105.out 4
    have hfz11_5 := bZ BK105.out 5
    go_upto_if 19 with (fail)
    go_cut [19] (fun v19 wc => ∃ (kq : Nat) (x19_9 : Bool), v19 = .bool x19_9 ∧ Aside0 (cubbyref07_bare.j1 kq a0_0 x19_9 a0_0 a0_1 a0_2 a0_3 a0_4 l0_5 = some r) ∧ Aside0 (kq ≤ kj1) ∧ Aside0 (wc.heap[gb105]? = some (.cells #[.int .i64 a0_0, .int .i64 a0_1, .int .i64 a0_2, .int .i64 a0_3, .string a0_4, (.slice A0_5 l0_5.length c0_5)] 32 (0, 0))) ∧ Aside0 (Below w.heap.size w wc))
    case first =>
     have H := HC10.out
     clear HC10
     by_cases c12 : a0_0 = 1
     ·rw [if_pos c12] at H
      have c12b0 : (a0_0 == 1) = true := beq_iff_eq.mpr c12
      have c12b1 : (a0_0 != 1) = false := bne_eq_false_iff_eq.mpr c12
      clear c12
      (first | rw [c12b0] | (simp only [i64_w]; rw [c12b0]) | skip)
      have H' := Aside0.mk H
      clear H
      go_wp2
      go_meet
      case rel => exact ⟨_, ((a0_0 == 1)), (by first | rfl | (simp; done) | (simp [*]; done)), H', ⟨by have := HJ1.out; first | omega | exact Nat.le_refl _⟩, ⟨by (with_reducible repeat (first | refine kN ?_ _ | refine blk_drew ?_ | refine kA ?_ _)); exact BK105.out⟩, ⟨by repeat (first | (with_reducible first | exact HB.out | apply bA | apply bN | apply bD | refine bS ?_ GE105.out) | exact HB.out)⟩⟩
     ·rw [if_neg c12] at H
      have c12b0 : (a0_0 == 1) = false := beq_eq_false_iff_ne.mpr c12
      have c12b1 : (a0_0 != 1) = true := bne_iff_ne.mpr c12
      (first | rw [c12b0] | (simp only [i64_w]; rw [c12b0]) | skip)
      by_cases c13 : a0_0 = 2
      ·rw [if_pos c13] at H
       have c13b0 : (a0_0 == 2) = true := beq_iff_eq.mpr c13
       have c13b1 : (a0_0 != 2) = false := bne_eq_false_iff_eq.mpr c13
       clear c13
       have H' := Aside0.mk H
       clear H
       go_wp2
       go_meet
       case rel => exact ⟨_, ((a0_0 == 2)), (by first | rfl | (simp; done) | (simp [*]; done)), H', ⟨by have := HJ1.out; first | omega | exact Nat.le_refl _⟩, ⟨by (with_reducible repeat (first | refine kN ?_ _ | refine blk_drew ?_ | refine kA ?_ _)); exact BK105.out⟩, ⟨by repeat (first | (with_reducible first | exact HB.out | apply bA | apply bN | apply bD | refine bS ?_ GE105.out) | exact HB.out)⟩⟩
      ·rw [if_neg c13] at H
       have c13b0 : (a0_0 == 2) = false := beq_eq_false_iff_ne.mpr c13
       have c13b1 : (a0_0 != 2) = true := bne_iff_ne.mpr c13
       have H' := Aside0.mk H
       clear H
       go_wp2
       go_meet
       case rel => exact ⟨_, ((a0_0 == 8)), (by first | rfl | (simp; done) | (simp [*]; done)), H', ⟨by have := HJ1.out; first | omega | exact Nat.le_refl _⟩, ⟨by (with_reducible repeat (first | refine kN ?_ _ | refine blk_drew ?_ | refine kA ?_ _)); exact BK105.out⟩, ⟨by repeat (first | (with_reducible first | exact HB.out | apply bA | apply bN | apply bD | refine bS ?_ GE105.out) | exact HB.out)⟩⟩
    case rest =>
     clear HC10
     try clear c1
     try clear p2
     try clear c4
     try clear c4b0
     try clear c4b1
     try clear c6
     try clear c6b0
     try clear c6b1
     try clear c9
     try clear c12
     try clear c12b0
     try clear c12b1
     try clear c13
     try clear c13b0
     try clear c13b1
     try clear hcz11_0
     try clear hcz11_1
     try clear hcz11_2
     try clear hcz11_3
     try clear hcz11_4
     try clear hcz11_5
     try clear hcz5_0
     try clear hcz5_1
     try clear hcz5_2
     try clear hcz5_3
     try clear hcz5_4
     try clear hcz5_5
     try clear hcz7_0
     try clear hcz7_1
     try clear hcz7_2
     try clear hcz7_3
     try clear hcz7_4
     try clear hcz7_5
     try clear hcz8_0
     try clear hcz8_1
     try clear hcz8_2
     try clear hcz8_3
     try clear hcz8_4
     try clear hcz8_5
     try clear hfz11_0
     try clear hfz11_1
     try clear hfz11_2
     try clear hfz11_3
     try clear hfz11_4
     try clear hfz11_5
     try clear hfz5_0
     try clear hfz5_1
     try clear hfz5_2
     try clear hfz5_3
     try clear hfz5_4
     try clear hfz5_5
     try clear hfz7_0
     try clear hfz7_1
     try clear hfz7_2
     try clear hfz7_3
     try clear hfz7_4
     try clear hfz7_5
     try clear hfz8_0
     try clear hfz8_1
     try clear hfz8_2
     try clear hfz8_3
     try clear hfz8_4
     try clear hfz8_5
     try clear p2
     obtain ⟨kq, x19_9, rfl, HA, HJ9, BK105, HB⟩ := hcut
     cases kq with
     | zero => exact absurd HA.out (by simp [cubbyref07_bare.j1])
     | succ kj9 =>
      have H := HA.out
      clear HA
      simp only [cubbyref07_bare.j1] at H
      by_cases c14 : x19_9 = true
      ·subst c14
       have H1 : (some (a0_3 == 0)) = some r := by rw [if_pos rfl] at H; exact H
       clear H
       have H := H1
       clear H1
       obtain rfl := Option.some.inj H
       have hcz15_0 : wc.cell? ⟨gb105, 0, none⟩ = some (.int .i64 a0_0) := (bC BK105.out 0).trans rfl
       have hcz15_1 : wc.cell? ⟨gb105, 1, none⟩ = some (.int .i64 a0_1) := (bC BK105.out 1).trans rfl
       have hcz15_2 : wc.cell? ⟨gb105, 2, none⟩ = some (.int .i64 a0_2) := (bC BK105.out 2).trans rfl
       have hcz15_3 : wc.cell? ⟨gb105, 3, none⟩ = some (.int .i64 a0_3) := (bC BK105.out 3).trans rfl
       have hcz15_4 : wc.cell? ⟨gb105, 4, none⟩ = some (.string a0_4) := (bC BK105.out 4).trans rfl
       have hcz15_5 : wc.cell? ⟨gb105, 5, none⟩ = some (.slice A0_5 l0_5.length c0_5) := (bC BK105.out 5).trans rfl
       have hfz15_0 := bZ BK105.out 0
       have hfz15_1 := bZ BK105.out 1
       have hfz15_2 := bZ BK105.out 2
       have hfz15_3 := bZ BK105.out 3
       have hfz15_4 := bZ BK105.out 4
       have hfz15_5 := bZ BK105.out 5
       go_wp2
       go_ret
       exact ⟨by first | rfl | (simp [errW_none, errW_some] <;> rfl) | (simp [*, errW_none, errW_some] <;> rfl), by repeat (first | (with_reducible first | exact HB.out | apply bA | apply bN | apply bD | refine bS ?_ GE105.out) | exact HB.out)⟩
      ·replace c14 := Bool.eq_false_iff.mpr c14
       subst c14
       have H1 : (if a0_0 = 3 then (cubbyref07_bare.j2 kj9 a0_0 (a0_0 == 3) a0_0 a0_1 a0_2 a0_3 a0_4 l0_5) else (if a0_0 = 4 then (cubbyref07_bare.j2 kj9 a0_0 (a0_0 == 4) a0_0 a0_1 a0_2 a0_3 a0_4 l0_5) else (if a0_0 = 5 then (cubbyref07_bare.j2 kj9 a0_0 (a0_0 == 5) a0_0 a0_1 a0_2 a0_3 a0_4 l0_5) else (if a0_0 = 6 then (cubbyref07_bare.j2 kj9 a0_0 (a0_0 == 6) a0_0 a0_1 a0_2 a0_3 a0_4 l0_5) else (if a0_0 = 7 then (cubbyref07_bare.j2 kj9 a0_0 (a0_0 == 7) a0_0 a0_1 a0_2 a0_3 a0_4 l0_5) else (cubbyref07_bare.j2 kj9 a0_0 (a0_0 == 13) a0_0 a0_1 a0_2 a0_3 a0_4 l0_5)))))) = some r := by rw [if_neg (show ¬ (false = true) by decide)] at H; exact H
       clear H
       have H := H1
       clear H1
       have HC16 := Aside0.mk H
       clear H
       go_upto_if 26 with (fail)
       go_cut [26] (fun v26 wc => ∃ (kq : Nat) (x26_15 : Bool), v26 = .bool x26_15 ∧ Aside0 (cubbyref07_bare.j2 kq a0_0 x26_15 a0_0 a0_1 a0_2 a0_3 a0_4 l0_5 = some r) ∧ Aside0 (kq ≤ kj9) ∧ Aside0 (wc.heap[gb105]? = some (.cells #[.int .i64 a0_0, .int .i64 a0_1, .int .i64 a0_2, .int .i64 a0_3, .string a0_4, (.slice A0_5 l0_5.length c0_5)] 32 (0, 0))) ∧ Aside0 (Below w.heap.size w wc))
       case first =>
        have H := HC16.out
        clear HC16
        by_cases c17 : a0_0 = 3
        ·rw [if_pos c17] at H
         have c17b0 : (a0_0 == 3) = true := beq_iff_eq.mpr c17
         have c17b1 : (a0_0 != 3) = false := bne_eq_false_iff_eq.mpr c17
         clear c17
         (first | rw [c17b0] | (simp only [i64_w]; rw [c17b0]) | skip)
         have H' := Aside0.mk H
         clear H
         go_wp2
         go_meet
         case rel => exact ⟨_, ((a0_0 == 3)), (by first | rfl | (simp; done) | (simp [*]; done)), H', ⟨by have := HJ1.out; have := HJ9.out; first | omega | exact Nat.le_refl _⟩, ⟨by (with_reducible repeat (first | refine kN ?_ _ | refine blk_drew ?_ | refine kA ?_ _)); exact BK105.out⟩, ⟨by repeat (first | (with_reducible first | exact HB.out | apply bA | apply bN | apply bD | refine bS ?_ GE105.out) | exact HB.out)⟩⟩
        ·rw [if_neg c17] at H
         have c17b0 : (a0_0 == 3) = false := beq_eq_false_iff_ne.mpr c17
         have c17b1 : (a0_0 != 3) = true := bne_iff_ne.mpr c17
         (first | rw [c17b0] | (simp only [i64_w]; rw [c17b0]) | skip)
         by_cases c18 : a0_0 = 4
         ·rw [if_pos c18] at H
          have c18b0 : (a0_0 == 4) = true := beq_iff_eq.mpr c18
          have c18b1 : (a0_0 != 4) = false := bne_eq_false_iff_eq.mpr c18
          clear c18
          have H' := Aside0.mk H
          clear H
          go_wp2
          go_meet
          case rel => exact ⟨_, ((a0_0 == 4)), (by first | rfl | (simp; done) | (simp [*]; done)), H', ⟨by have := HJ1.out; have := HJ9.out; first | omega | exact Nat.le_refl _⟩, ⟨by (with_reducible repeat (first | refine kN ?_ _ | refine blk_drew ?_ | refine kA ?_ _)); exact BK105.out⟩, ⟨by repeat (first | (with_reducible first | exact HB.out | apply bA | apply bN | apply bD | refine bS ?_ GE105.out) | exact HB.out)⟩⟩
         ·rw [if_neg c18] at H
          have c18b0 : (a0_0 == 4) = false := beq_eq_false_iff_ne.mpr c18
          have c18b1 : (a0_0 != 4) = true := bne_iff_ne.mpr c18
          by_cases c19 : a0_0 = 5
          ·rw [if_pos c19] at H
           have c19b0 : (a0_0 == 5) = true := beq_iff_eq.mpr c19
           have c19b1 : (a0_0 != 5) = false := bne_eq_false_iff_eq.mpr c19
           clear c19
           have H' := Aside0.mk H
           clear H
           go_wp2
           go_meet
           case rel => exact ⟨_, ((a0_0 == 5)), (by first | rfl | (simp; done) | (simp [*]; done)), H', ⟨by have := HJ1.out; have := HJ9.out; first | omega | exact Nat.le_refl _⟩, ⟨by (with_reducible repeat (first | refine kN ?_ _ | refine blk_drew ?_ | refine kA ?_ _)); exact BK105.out⟩, ⟨by repeat (first | (with_reducible first | exact HB.out | apply bA | apply bN | apply bD | refine bS ?_ GE105.out) | exact HB.out)⟩⟩
          ·rw [if_neg c19] at H
           have c19b0 : (a0_0 == 5) = false := beq_eq_false_iff_ne.mpr c19
           have c19b1 : (a0_0 != 5) = true := bne_iff_ne.mpr c19
           by_cases c20 : a0_0 = 6
           ·rw [if_pos c20] at H
            have c20b0 : (a0_0 == 6) = true := beq_iff_eq.mpr c20
            have c20b1 : (a0_0 != 6) = false := bne_eq_false_iff_eq.mpr c20
            clear c20
            have H' := Aside0.mk H
            clear H
            go_wp2
            go_meet
            case rel => exact ⟨_, ((a0_0 == 6)), (by first | rfl | (simp; done) | (simp [*]; done)), H', ⟨by have := HJ1.out; have := HJ9.out; first | omega | exact Nat.le_refl _⟩, ⟨by (with_reducible repeat (first | refine kN ?_ _ | refine blk_drew ?_ | refine kA ?_ _)); exact BK105.out⟩, ⟨by repeat (first | (with_reducible first | exact HB.out | apply bA | apply bN | apply bD | refine bS ?_ GE105.out) | exact HB.out)⟩⟩
           ·rw [if_neg c20] at H
            have c20b0 : (a0_0 == 6) = false := beq_eq_false_iff_ne.mpr c20
            have c20b1 : (a0_0 != 6) = true := bne_iff_ne.mpr c20
            by_cases c21 : a0_0 = 7
            ·rw [if_pos c21] at H
             have c21b0 : (a0_0 == 7) = true := beq_iff_eq.mpr c21
             have c21b1 : (a0_0 != 7) = false := bne_eq_false_iff_eq.mpr c21
             clear c21
             have H' := Aside0.mk H
             clear H
             go_wp2
             go_meet
             case rel => exact ⟨_, ((a0_0 == 7)), (by first | rfl | (simp; done) | (simp [*]; done)), H', ⟨by have := HJ1.out; have := HJ9.out; first | omega | exact Nat.le_refl _⟩, ⟨by (with_reducible repeat (first | refine kN ?_ _ | refine blk_drew ?_ | refine kA ?_ _)); exact BK105.out⟩, ⟨by repeat (first | (with_reducible first | exact HB.out | apply bA | apply bN | apply bD | refine bS ?_ GE105.out) | exact HB.out)⟩⟩
            ·rw [if_neg c21] at H
             have c21b0 : (a0_0 == 7) = false := beq_eq_false_iff_ne.mpr c21
             have c21b1 : (a0_0 != 7) = true := bne_iff_ne.mpr c21
             have H' := Aside0.mk H
             clear H
             go_wp2
             go_meet
             case rel => exact ⟨_, ((a0_0 == 13)), (by first | rfl | (simp; done) | (simp [*]; done)), H', ⟨by have := HJ1.out; have := HJ9.out; first | omega | exact Nat.le_refl _⟩, ⟨by (with_reducible repeat (first | refine kN ?_ _ | refine blk_drew ?_ | refine kA ?_ _)); exact BK105.out⟩, ⟨by repeat (first | (with_reducible first | exact HB.out | apply bA | apply bN | apply bD | refine bS ?_ GE105.out) | exact HB.out)⟩⟩
       case rest =>
        clear HC16
        try clear c1
        try clear c2
        try clear p2
        try clear c4
        try clear c4b0
        try clear c4b1
        try clear c6
        try clear c6b0
        try clear c6b1
        try clear c9
        try clear c12
        try clear c12b0
        try clear c12b1
        try clear c13
        try clear c13b0
        try clear c13b1
        try clear c14
        try clear c17
        try clear c17b0
        try clear c17b1
        try clear c18
        try clear c18b0
        try clear c18b1
        try clear c19
        try clear c19b0
        try clear c19b1
        try clear c20
        try clear c20b0
        try clear c20b1
        try clear c21
        try clear c21b0
        try clear c21b1
        try clear hcz11_0
        try clear hcz11_1
        try clear hcz11_2
        try clear hcz11_3
        try clear hcz11_4
        try clear hcz11_5
        try clear hcz15_0
        try clear hcz15_1
        try clear hcz15_2
        try clear hcz15_3
        try clear hcz15_4
        try clear hcz15_5
        try clear hcz5_0
        try clear hcz5_1
        try clear hcz5_2
        try clear hcz5_3
        try clear hcz5_4
        try clear hcz5_5
        try clear hcz7_0
        try clear hcz7_1
        try clear hcz7_2
        try clear hcz7_3
        try clear hcz7_4
        try clear hcz7_5
        try clear hcz8_0
        try clear hcz8_1
        try clear hcz8_2
        try clear hcz8_3
        try clear hcz8_4
        try clear hcz8_5
        try clear hfz11_0
        try clear hfz11_1
        try clear hfz11_2
        try clear hfz11_3
        try clear hfz11_4
        try clear hfz11_5
        try clear hfz15_0
        try clear hfz15_1
        try clear hfz15_2
        try clear hfz15_3
        try clear hfz15_4
        try clear hfz15_5
        try clear hfz5_0
        try clear hfz5_1
        try clear hfz5_2
        try clear hfz5_3
        try clear hfz5_4
        try clear hfz5_5
        try clear hfz7_0
        try clear hfz7_1
        try clear hfz7_2
        try clear hfz7_3
        try clear hfz7_4
        try clear hfz7_5
        try clear hfz8_0
        try clear hfz8_1
        try clear hfz8_2
        try clear hfz8_3
        try clear hfz8_4
        try clear hfz8_5
        try clear p2
        obtain ⟨kq, x26_15, rfl, HA, HJ15, BK105, HB⟩ := hcut
        cases kq with
        | zero => exact absurd HA.out (by simp [cubbyref07_bare.j2])
        | succ kj15 =>
         have H := HA.out
         clear HA
         simp only [cubbyref07_bare.j2] at H
         by_cases c22 : x26_15 = true
         ·subst c22
          have H1 : (some true) = some r := by rw [if_pos rfl] at H; exact H
          clear H
          have H := H1
          clear H1
          obtain rfl := Option.some.inj H
          go_wp2
          go_ret
          exact ⟨by first | rfl | (simp [errW_none, errW_some] <;> rfl) | (simp [*, errW_none, errW_some] <;> rfl), by repeat (first | (with_reducible first | exact HB.out | apply bA | apply bN | apply bD | refine bS ?_ GE105.out) | exact HB.out)⟩
         ·replace c22 := Bool.eq_false_iff.mpr c22
          subst c22
          have H1 : (if a0_0 = 9 then (some (a0_1 == 0)) else (if a0_0 = 10 then (cubbyref07_bare.j3 kj15 a0_0 (a0_0 == 10) a0_0 a0_1 a0_2 a0_3 a0_4 l0_5) else (if a0_0 = 14 then (cubbyref07_bare.j3 kj15 a0_0 (a0_0 == 14) a0_0 a0_1 a0_2 a0_3 a0_4 l0_5) else (cubbyref07_bare.j3 kj15 a0_0 (a0_0 == 12) a0_0 a0_1 a0_2 a0_3 a0_4 l0_5)))) = some r := by rw [if_neg (show ¬ (false = true) by decide)] at H; exact H
          clear H
          have H := H1
          clear H1
          by_cases c23 : a0_0 = 9
          ·rw [if_pos c23] at H
           have c23b0 : (a0_0 == 9) = true := beq_iff_eq.mpr c23
           have c23b1 : (a0_0 != 9) = false := bne_eq_false_iff_eq.mpr c23
           clear c23
           obtain rfl := Option.some.inj H
           have hcz24_0 : wc.cell? ⟨gb105, 0, none⟩ = some (.int .i64 a0_0) := (bC BK105.out 0).trans rfl
           have hcz24_1 : wc.cell? ⟨gb105, 1, none⟩ = some (.int .i64 a0_1) := (bC BK105.out 1).trans rfl
           have hcz24_2 : wc.cell? ⟨gb105, 2, none⟩ = some (.int .i64 a0_2) := (bC BK105.out 2).trans rfl
           have hcz24_3 : wc.cell? ⟨gb105, 3, none⟩ = some (.int .i64 a0_3) := (bC BK105.out 3).trans rfl
           have hcz24_4 : wc.cell? ⟨gb105, 4, none⟩ = some (.string a0_4) := (bC BK105.out 4).trans rfl
           have hcz24_5 : wc.cell? ⟨gb105, 5, none⟩ = some (.slice A0_5 l0_5.length c0_5) := (bC BK105.out 5).trans rfl
           have hfz24_0 := bZ BK105.out 0
           have hfz24_1 := bZ BK105.out 1
           have hfz24_2 := bZ BK105.out 2
           have hfz24_3 := bZ BK105.out 3
           have hfz24_4 := bZ BK105.out 4
           have hfz24_5 := bZ BK105.out 5
           go_wp2
           go_ret
           exact ⟨by first | rfl | (simp [errW_none, errW_some] <;> rfl) | (simp [*, errW_none, errW_some] <;> rfl), by repeat (first | (with_reducible first | exact HB.out | apply bA | apply bN | apply bD | refine bS ?_ GE105.out) | exact HB.out)⟩
          ·rw [if_neg c23] at H
           have c23b0 : (a0_0 == 9) = false := beq_eq_false_iff_ne.mpr c23
           have c23b1 : (a0_0 != 9) = true := bne_iff_ne.mpr c23
           have HC25 := Aside0.mk H
           clear H
           go_upto_if 38 with (fail)
           go_cut [38] (fun v38 wc => ∃ (kq : Nat) (x38_24 : Bool), v38 = .bool x38_24 ∧ Aside0 (cubbyref07_bare.j3 kq a0_0 x38_24 a0_0 a0_1 a0_2 a0_3 a0_4 l0_5 = some r) ∧ Aside0 (kq ≤ kj15) ∧ Aside0 (wc.heap[gb105]? = some (.cells #[.int .i64 a0_0, .int .i64 a0_1, .int .i64 a0_2, .int .i64 a0_3, .string a0_4, (.slice A0_5 l0_5.length c0_5)] 32 (0, 0))) ∧ Aside0 (Below w.heap.size w wc))
           case first =>
            have H := HC25.out
            clear HC25
            by_cases c26 : a0_0 = 10
            ·rw [if_pos c26] at H
             have c26b0 : (a0_0 == 10) = true := beq_iff_eq.mpr c26
             have c26b1 : (a0_0 != 10) = false := bne_eq_false_iff_eq.mpr c26
             clear c26
             (first | rw [c26b0] | (simp only [i64_w]; rw [c26b0]) | skip)
             have H' := Aside0.mk H
             clear H
             go_wp2
             go_meet
             case rel => exact ⟨_, ((a0_0 == 10)), (by first | rfl | (simp; done) | (simp [*]; done)), H', ⟨by have := HJ1.out; have := HJ9.out; have := HJ15.out; first | omega | exact Nat.le_refl _⟩, ⟨by (with_reducible repeat (first | refine kN ?_ _ | refine blk_drew ?_ | refine kA ?_ _)); exact BK105.out⟩, ⟨by repeat (first | (with_reducible first | exact HB.out | apply bA | apply bN | apply bD | refine bS ?_ GE105.out) | exact HB.out)⟩⟩
            ·rw [if_neg c26] at H
             have c26b0 : (a0_0 == 10) = false := beq_eq_false_iff_ne.mpr c26
             have c26b1 : (a0_0 != 10) = true := bne_iff_ne.mpr c26
             (first | rw [c26b0] | (simp only [i64_w]; rw [c26b0]) | skip)
             by_cases c27 : a0_0 = 14
             ·rw [if_pos c27] at H
              have c27b0 : (a0_0 == 14) = true := beq_iff_eq.mpr c27
              have c27b1 : (a0_0 != 14) = false := bne_eq_false_iff_eq.mpr c27
              clear c27
              have H' := Aside0.mk H
              clear H
              go_wp2
              go_meet
              case rel => exact ⟨_, ((a0_0 == 14)), (by first | rfl | (simp; done) | (simp [*]; done)), H', ⟨by have := HJ1.out; have := HJ9.out; have := HJ15.out; first | omega | exact Nat.le_refl _⟩, ⟨by (with_reducible repeat (first | refine kN ?_ _ | refine blk_drew ?_ | refine kA ?_ _)); exact BK105.out⟩, ⟨by repeat (first | (with_reducible first | exact HB.out | apply bA | apply bN | apply bD | refine bS ?_ GE105.out) | exact HB.out)⟩⟩
             ·rw [if_neg c27] at H
              have c27b0 : (a0_0 == 14) = false := beq_eq_false_iff_ne.mpr c27
              have c27b1 : (a0_0 != 14) = true := bne_iff_ne.mpr c27
              have H' := Aside0.mk H
              clear H
              go_wp2
              go_meet
              case rel => exact ⟨_, ((a0_0 == 12)), (by first | rfl | (simp; done) | (simp [*]; done)), H', ⟨by have := HJ1.out; have := HJ9.out; have := HJ15.out; first | omega | exact Nat.le_refl _⟩, ⟨by (with_reducible repeat (first | refine kN ?_ _ | refine blk_drew ?_ | refine kA ?_ _)); exact BK105.out⟩, ⟨by repeat (first | (with_reducible first | exact HB.out | apply bA | apply bN | apply bD | refine bS ?_ GE105.out) | exact HB.out)⟩⟩
           case rest =>
            clear HC25
            try clear c1
            try clear c2
            try clear p2
            try clear c4
            try clear c4b0
            try clear c4b1
            try clear c6
            try clear c6b0
            try clear c6b1
            try clear c9
            try clear c12
            try clear c12b0
            try clear c12b1
            try clear c13
            try clear c13b0
            try clear c13b1
            try clear c14
            try clear c17
            try clear c17b0
            try clear c17b1
            try clear c18
            try clear c18b0
            try clear c18b1
            try clear c19
            try clear c19b0
            try clear c19b1
            try clear c20
            try clear c20b0
            try clear c20b1
            try clear c21
            try clear c21b0
            try clear c21b1
            try clear c22
            try clear c23
            try clear c23b0
            try clear c23b1
            try clear c26
            try clear c26b0
            try clear c26b1
            try clear c27
            try clear c27b0
            try clear c27b1
            try clear hcz11_0
            try clear hcz11_1
            try clear hcz11_2
            try clear hcz11_3
            try clear hcz11_4
            try clear hcz11_5
            try clear hcz15_0
            try clear hcz15_1
            try clear hcz15_2
            try clear hcz15_3
            try clear hcz15_4
            try clear hcz15_5
            try clear hcz24_0
            try clear hcz24_1
            try clear hcz24_2
            try clear hcz24_3
            try clear hcz24_4
            try clear hcz24_5
            try clear hcz5_0
            try clear hcz5_1
            try clear hcz5_2
            try clear hcz5_3
            try clear hcz5_4
            try clear hcz5_5
            try clear hcz7_0
            try clear hcz7_1
            try clear hcz7_2
            try clear hcz7_3
            try clear hcz7_4
            try clear hcz7_5
            try clear hcz8_0
            try clear hcz8_1
            try clear hcz8_2
            try clear hcz8_3
            try clear hcz8_4
            try clear hcz8_5
            try clear hfz11_0
            try clear hfz11_1
            try clear hfz11_2
            try clear hfz11_3
            try clear hfz11_4
            try clear hfz11_5
            try clear hfz15_0
            try clear hfz15_1
            try clear hfz15_2
            try clear hfz15_3
            try clear hfz15_4
            try clear hfz15_5
            try clear hfz24_0
            try clear hfz24_1
            try clear hfz24_2
            try clear hfz24_3
            try clear hfz24_4
            try clear hfz24_5
            try clear hfz5_0
            try clear hfz5_1
            try clear hfz5_2
            try clear hfz5_3
            try clear hfz5_4
            try clear hfz5_5
            try clear hfz7_0
            try clear hfz7_1
            try clear hfz7_2
            try clear hfz7_3
            try clear hfz7_4
            try clear hfz7_5
            try clear hfz8_0
            try clear hfz8_1
            try clear hfz8_2
            try clear hfz8_3
            try clear hfz8_4
            try clear hfz8_5
            try clear p2
            obtain ⟨kq, x38_24, rfl, HA, HJ24, BK105, HB⟩ := hcut
            cases kq with
            | zero => exact absurd HA.out (by simp [cubbyref07_bare.j3])
            | succ kj24 =>
             have H := HA.out
             clear HA
             simp only [cubbyref07_bare.j3] at H
             by_cases c28 : x38_24 = true
             ·subst c28
              have H1 : (if a0_1 = 0 then (some (a0_3 == 0)) else (some false)) = some r := by rw [if_pos rfl] at H; exact H
              clear H
              have H := H1
              clear H1
              by_cases c29 : a0_1 = 0
              ·rw [if_pos c29] at H
               have c29b0 : (a0_1 == 0) = true := beq_iff_eq.mpr c29
               have c29b1 : (a0_1 != 0) = false := bne_eq_false_iff_eq.mpr c29
               clear c29
               obtain rfl := Option.some.inj H
               have hcz30_0 : wc.cell? ⟨gb105, 0, none⟩ = some (.int .i64 a0_0) := (bC BK105.out 0).trans rfl
               have hcz30_1 : wc.cell? ⟨gb105, 1, none⟩ = some (.int .i64 a0_1) := (bC BK105.out 1).trans rfl
               have hcz30_2 : wc.cell? ⟨gb105, 2, none⟩ = some (.int .i64 a0_2) := (bC BK105.out 2).trans rfl
               have hcz30_3 : wc.cell? ⟨gb105, 3, none⟩ = some (.int .i64 a0_3) := (bC BK105.out 3).trans rfl
               have hcz30_4 : wc.cell? ⟨gb105, 4, none⟩ = some (.string a0_4) := (bC BK105.out 4).trans rfl
               have hcz30_5 : wc.cell? ⟨gb105, 5, none⟩ = some (.slice A0_5 l0_5.length c0_5) := (bC BK105.out 5).trans rfl
               have hfz30_0 := bZ BK105.out 0
               have hfz30_1 := bZ BK105.out 1
               have hfz30_2 := bZ BK105.out 2
               have hfz30_3 := bZ BK105.out 3
               have hfz30_4 := bZ BK105.out 4
               have hfz30_5 := bZ BK105.out 5
               go_wp2
               go_ret
               exact ⟨by first | rfl | (simp [errW_none, errW_some] <;> rfl) | (simp [*, errW_none, errW_some] <;> rfl), by repeat (first | (with_reducible first | exact HB.out | apply bA | apply bN | apply bD | refine bS ?_ GE105.out) | exact HB.out)⟩
              ·rw [if_neg c29] at H
               have c29b0 : (a0_1 == 0) = false := beq_eq_false_iff_ne.mpr c29
               have c29b1 : (a0_1 != 0) = true := bne_iff_ne.mpr c29
               obtain rfl := Option.some.inj H
               have hcz31_0 : wc.cell? ⟨gb105, 0, none⟩ = some (.int .i64 a0_0) := (bC BK105.out 0).trans rfl
               have hcz31_1 : wc.cell? ⟨gb105, 1, none⟩ = some (.int .i64 a0_1) := (bC BK105.out 1).trans rfl
               have hcz31_2 : wc.cell? ⟨gb105, 2, none⟩ = some (.int .i64 a0_2) := (bC BK105.out 2).trans rfl
               have hcz31_3 : wc.cell? ⟨gb105, 3, none⟩ = some (.int .i64 a0_3) := (bC BK105.out 3).trans rfl
               have hcz31_4 : wc.cell? ⟨gb105, 4, none⟩ = some (.string a0_4) := (bC BK105.out 4).trans rfl
               have hcz31_5 : wc.cell? ⟨gb105, 5, none⟩ = some (.slice A0_5 l0_5.length c0_5) := (bC BK105.out 5).trans rfl
               have hfz31_0 := bZ BK105.out 0
               have hfz31_1 := bZ BK105.out 1
               have hfz31_2 := bZ BK105.out 2
               have hfz31_3 := bZ BK105.out 3
               have hfz31_4 := bZ BK105.out 4
               have hfz31_5 := bZ BK105.out 5
               go_wp2
               go_ret
               exact ⟨by first | rfl | (simp [errW_none, errW_some] <;> rfl) | (simp [*, errW_none, errW_some] <;> rfl), by repeat (first | (with_reducible first | exact HB.out | apply bA | apply bN | apply bD | refine bS ?_ GE105.out) | exact HB.out)⟩
             ·replace c28 := Bool.eq_false_iff.mpr c28
              subst c28
              have H1 : (if a0_0 = 11 then (if a0_2 = 0 then (some (a0_3 == 0)) else (some false)) else (some false)) = some r := by rw [if_neg (show ¬ (false = true) by decide)] at H; exact H
              clear H
              have H := H1
              clear H1
              by_cases c32 : a0_0 = 11
              ·rw [if_pos c32] at H
               have c32b0 : (a0_0 == 11) = true := beq_iff_eq.mpr c32
               have c32b1 : (a0_0 != 11) = false := bne_eq_false_iff_eq.mpr c32
               clear c32
               by_cases c33 : a0_2 = 0
               ·rw [if_pos c33] at H
                have c33b0 : (a0_2 == 0) = true := beq_iff_eq.mpr c33
                have c33b1 : (a0_2 != 0) = false := bne_eq_false_iff_eq.mpr c33
                clear c33
                obtain rfl := Option.some.inj H
                have hcz34_0 : wc.cell? ⟨gb105, 0, none⟩ = some (.int .i64 a0_0) := (bC BK105.out 0).trans rfl
                have hcz34_1 : wc.cell? ⟨gb105, 1, none⟩ = some (.int .i64 a0_1) := (bC BK105.out 1).trans rfl
                have hcz34_2 : wc.cell? ⟨gb105, 2, none⟩ = some (.int .i64 a0_2) := (bC BK105.out 2).trans rfl
                have hcz34_3 : wc.cell? ⟨gb105, 3, none⟩ = some (.int .i64 a0_3) := (bC BK105.out 3).trans rfl
                have hcz34_4 : wc.cell? ⟨gb105, 4, none⟩ = some (.string a0_4) := (bC BK105.out 4).trans rfl
                have hcz34_5 : wc.cell? ⟨gb105, 5, none⟩ = some (.slice A0_5 l0_5.length c0_5) := (bC BK105.out 5).trans rfl
                have hfz34_0 := bZ BK105.out 0
                have hfz34_1 := bZ BK105.out 1
                have hfz34_2 := bZ BK105.out 2
                have hfz34_3 := bZ BK105.out 3
                have hfz34_4 := bZ BK105.out 4
                have hfz34_5 := bZ BK105.out 5
                go_wp2
                go_ret
                exact ⟨by first | rfl | (simp [errW_none, errW_some] <;> rfl) | (simp [*, errW_none, errW_some] <;> rfl), by repeat (first | (with_reducible first | exact HB.out | apply bA | apply bN | apply bD | refine bS ?_ GE105.out) | exact HB.out)⟩
               ·rw [if_neg c33] at H
                have c33b0 : (a0_2 == 0) = false := beq_eq_false_iff_ne.mpr c33
                have c33b1 : (a0_2 != 0) = true := bne_iff_ne.mpr c33
                obtain rfl := Option.some.inj H
                have hcz35_0 : wc.cell? ⟨gb105, 0, none⟩ = some (.int .i64 a0_0) := (bC BK105.out 0).trans rfl
                have hcz35_1 : wc.cell? ⟨gb105, 1, none⟩ = some (.int .i64 a0_1) := (bC BK105.out 1).trans rfl
                have hcz35_2 : wc.cell? ⟨gb105, 2, none⟩ = some (.int .i64 a0_2) := (bC BK105.out 2).trans rfl
                have hcz35_3 : wc.cell? ⟨gb105, 3, none⟩ = some (.int .i64 a0_3) := (bC BK105.out 3).trans rfl
                have hcz35_4 : wc.cell? ⟨gb105, 4, none⟩ = some (.string a0_4) := (bC BK105.out 4).trans rfl
                have hcz35_5 : wc.cell? ⟨gb105, 5, none⟩ = some (.slice A0_5 l0_5.length c0_5) := (bC BK105.out 5).trans rfl
                have hfz35_0 := bZ BK105.out 0
                have hfz35_1 := bZ BK105.out 1
                have hfz35_2 := bZ BK105.out 2
                have hfz35_3 := bZ BK105.out 3
                have hfz35_4 := bZ BK105.out 4
                have hfz35_5 := bZ BK105.out 5
                go_wp2
                go_ret
                exact ⟨by first | rfl | (simp [errW_none, errW_some] <;> rfl) | (simp [*, errW_none, errW_some] <;> rfl), by repeat (first | (with_reducible first | exact HB.out | apply bA | apply bN | apply bD | refine bS ?_ GE105.out) | exact HB.out)⟩
              ·rw [if_neg c32] at H
               have c32b0 : (a0_0 == 11) = false := beq_eq_false_iff_ne.mpr c32
               have c32b1 : (a0_0 != 11) = true := bne_iff_ne.mpr c32
               obtain rfl := Option.some.inj H
               go_wp2
               go_ret
               exact ⟨by first | rfl | (simp [errW_none, errW_some] <;> rfl) | (simp [*, errW_none, errW_some] <;> rfl), by repeat (first | (with_reducible first | exact HB.out | apply bA | apply bN | apply bD | refine bS ?_ GE105.out) | exact HB.out)⟩
end Go.Proofs.YtoilapjkgligfaaDoor.P
namespace Go.Proofs.YtoilapjkgligfaaDoor.P
open Go.RowKit Go.Proofs.YtoilapjkgligfaaDoorW.PrintWords Go.Proofs.YtoilapjkgligfaaDoorW.PrintLast Go.Proofs.YtoilapjkgligfaaDoorW.PrintMore
attribute [local go_sem] max2_int min2_int max_two min_two max_three min_three max_four min_four 
set_option linter.unusedVariables false
set_option linter.unusedSimpArgs false
def cubbyref07_within.l0 : Nat → List Int → Int → Int → Option (Bool)
 | 0, _, _, _ => none
 | k + 1, x0, x1, x5 => if x5 < (x0.length : Int) then (if 0 ≤ x5 then (if (rd x0 x5) < 0 then (some false) else (if (rd x0 x5) ≥ x1 then (some false) else (cubbyref07_within.l0 k x0 x1 (wrap64 (x5 + 1))))) else (none)) else (some true)
def cubbyref07_within.f (k : Nat) (l0 : List Int) (a1 : Int) : Option (Bool) := cubbyref07_within.l0 k l0 a1 0
set_option maxHeartbeats 8000000 in
set_option maxRecDepth 100000 in
theorem cubbyref07_within.calls (k : Nat) (A0 : Option Addr) (c0 : Nat) (l0 : List Int) (a1 : Int) (r : Bool) (w : World) (hr0 : Kd.C (Kd.int .i64) w A0 l0.length l0) (hc0 : l0.length ≤ c0) (h : cubbyref07_within.f k l0 a1 = some r) :
  Calls Tryd.prog 68 #[.slice A0 l0.length c0, .int .i64 a1] w fun e w' => e = .returned (.bool r) ∧ Drawn0 w w' := by
 have HR0 := Aside0.mk hr0
 have HC0 := Aside0.mk hc0
 clear hr0 hc0
 have H : (cubbyref07_within.l0 k l0 a1 0) = some r := h
 clear h
 have H' := Aside0.mk H
 clear H
 go_enter Tryd.func68, Tryd.ntmps68
 go_wp2
 go_loopg [5] k (fun kq v5 w' => ∃ (x5_1 : Int), v5 = .int .i64 x5_1 ∧ Aside0 (cubbyref07_within.l0 kq l0 a1 x5_1 = some r) ∧ Aside0 (kq ≤ k) ∧ Drawn0 w w')
 case atStart => exact ⟨(0), (by first | rfl | (simp; done) | (simp [*]; done)), H', ⟨Nat.le_refl _⟩, by repeat (first | exact Drawn0.refl _ | apply Drawn0.step)⟩
 case round =>
  clear H'
  try clear p2
  obtain ⟨x5_1, rfl, HA, HK1, ⟨m1, rfl⟩⟩ := hrel
  cases gk with
  | zero => exact absurd HA.out (by simp [cubbyref07_within.l0])
  | succ k1 =>
   have H := HA.out
   clear HA
   simp only [cubbyref07_within.l0] at H
   by_cases c3 : x5_1 < (l0.length : Int)
   ·rw [if_pos c3] at H
    have c3b0 : decide (x5_1 < (l0.length : Int)) = true := decide_eq_true c3
    clear c3
    by_cases c4 : 0 ≤ x5_1
    ·rw [if_pos c4] at H
     have c4b0 : decide (0 ≤ x5_1) = true := decide_eq_true c4
     clear c4
     by_cases c5 : (rd l0 x5_1) < 0
     ·rw [if_pos c5] at H
      have c5b0 : decide ((rd l0 x5_1) < 0) = true := decide_eq_true c5
      clear c5
      obtain rfl := Option.some.inj H
      have p106 : 0 ≤ (x5_1 : Int) := oD (by first | (with_reducible assumption) | assumption)
      have q106 : x5_1 < (l0.length : Int) := oD (by first | (with_reducible assumption) | assumption)
      obtain ⟨ad106, e106, hx106_0⟩ := Kd.at_int HR0.out x5_1 p106 q106
      cases e106
      replace p106 := eq_true p106
      replace q106 := eq_true q106
      go_wp2
      go_ret
      exact ⟨by first | rfl | (simp; done) | (simp [*]; done), by repeat (first | exact Drawn0.refl _ | apply Drawn0.step)⟩
     ·rw [if_neg c5] at H
      have c5b0 : decide ((rd l0 x5_1) < 0) = false := decide_eq_false c5
      clear c5
      by_cases c6 : (rd l0 x5_1) ≥ a1
      ·rw [if_pos c6] at H
       have c6b0 : decide (a1 ≤ (rd l0 x5_1)) = true := decide_eq_true c6
       clear c6
       obtain rfl := Option.some.inj H
       have p106 : 0 ≤ (x5_1 : Int) := oD (by first | (with_reducible assumption) | assumption)
       have q106 : x5_1 < (l0.length : Int) := oD (by first | (with_reducible assumption) | assumption)
       obtain ⟨ad106, e106, hx106_0⟩ := Kd.at_int HR0.out x5_1 p106 q106
       cases e106
       replace p106 := eq_true p106
       replace q106 := eq_true q106
       have p107 : 0 ≤ (x5_1 : Int) := oD (by first | (with_reducible assumption) | assumption)
       have q107 : x5_1 < (l0.length : Int) := oD (by first | (with_reducible assumption) | assumption)
       obtain ⟨ad107, e107, hx107_0⟩ := Kd.at_int HR0.out x5_1 p107 q107
       obtain rfl : ad106 = ad107 := (by injection e107)
       replace p107 := eq_true p107
       replace q107 := eq_true q107
       go_wp2
       go_ret
       exact ⟨by first | rfl | (simp; done) | (simp [*]; done), by repeat (first | exact Drawn0.refl _ | apply Drawn0.step)⟩
      ·rw [if_neg c6] at H
       have c6b0 : decide (a1 ≤ (rd l0 x5_1)) = false := decide_eq_false c6
       clear c6
       have H' := Aside0.mk H
       clear H
       have p106 : 0 ≤ (x5_1 : Int) := oD (by first | (with_reducible assumption) | assumption)
       have q106 : x5_1 < (l0.length : Int) := oD (by first | (with_reducible assumption) | assumption)
       obtain ⟨ad106, e106, hx106_0⟩ := Kd.at_int HR0.out x5_1 p106 q106
       cases e106
       replace p106 := eq_true p106
       replace q106 := eq_true q106
       have p107 : 0 ≤ (x5_1 : Int) := oD (by first | (with_reducible assumption) | assumption)
       have q107 : x5_1 < (l0.length : Int) := oD (by first | (with_reducible assumption) | assumption)
       obtain ⟨ad107, e107, hx107_0⟩ := Kd.at_int HR0.out x5_1 p107 q107
       obtain rfl : ad106 = ad107 := (by injection e107)
       replace p107 := eq_true p107
       replace q107 := eq_true q107
       go_wp2
       go_roundg k1
       case measure => have := HK1.out; omega
       case rel => exact ⟨(wrap64 (x5_1 + 1)), (by first | rfl | (simp; done) | (simp [*]; done)), H', ⟨by have := HK1.out; omega⟩, by repeat (first | exact Drawn0.refl _ | apply Drawn0.step)⟩
    ·rw [if_neg c4] at H
     exact absurd H (by simp)
   ·rw [if_neg c3] at H
    have c3b0 : decide (x5_1 < (l0.length : Int)) = false := decide_eq_false c3
    clear c3
    obtain rfl := Option.some.inj H
    go_wp2
    go_ret
    exact ⟨by first | rfl | (simp; done) | (simp [*]; done), by repeat (first | exact Drawn0.refl _ | apply Drawn0.step)⟩
end Go.Proofs.YtoilapjkgligfaaDoor.P
namespace Go.Proofs.YtoilapjkgligfaaDoor.P
open Go.RowKit Go.Proofs.YtoilapjkgligfaaDoorW.PrintWords Go.Proofs.YtoilapjkgligfaaDoorW.PrintLast Go.Proofs.YtoilapjkgligfaaDoorW.PrintMore
attribute [local go_sem] max2_int min2_int max_two min_two max_three min_three max_four min_four 
set_option linter.unusedVariables false
set_option linter.unusedSimpArgs false
mutual
def cubbyref07_Uses.j0 : Nat → List Int → Int → Bool → Int → Int → Int → Int → ByteArray → List Int → Option (List Int)
 | 0, _, _, _, _, _, _, _, _, _ => none
 | k + 1, x3, x6, x7, y0, y1, y2, y3, y4, y5 => if x7 = true then (if x3.length < 17592186044416 then (some (x3 ++ [y2])) else (none)) else (if x6 = 3 then (cubbyref07_Uses.j1 k x3 x6 (x6 == 3) y0 y1 y2 y3 y4 y5) else (if x6 = 4 then (cubbyref07_Uses.j1 k x3 x6 (x6 == 4) y0 y1 y2 y3 y4 y5) else (if x6 = 5 then (cubbyref07_Uses.j1 k x3 x6 (x6 == 5) y0 y1 y2 y3 y4 y5) else (if x6 = 6 then (cubbyref07_Uses.j1 k x3 x6 (x6 == 6) y0 y1 y2 y3 y4 y5) else (if x6 = 7 then (cubbyref07_Uses.j1 k x3 x6 (x6 == 7) y0 y1 y2 y3 y4 y5) else (cubbyref07_Uses.j1 k x3 x6 (x6 == 9) y0 y1 y2 y3 y4 y5))))))
def cubbyref07_Uses.j1 : Nat → List Int → Int → Bool → Int → Int → Int → Int → ByteArray → List Int → Option (List Int)
 | 0, _, _, _, _, _, _, _, _, _ => none
 | k + 1, x3, x6, x18, y0, y1, y2, y3, y4, y5 => if x18 = true then ((some (([y2, y3] : List Int) : List Int)).bind fun y115 => (if x3.length + y115.length < 17592186044416 then (some (x3 ++ y115)) else (none))) else (if x6 = 11 then (if x3.length + y5.length < 17592186044416 then (some (x3 ++ y5)) else (none)) else (some x3))
end
def cubbyref07_Uses.f (k : Nat) (a0_0 : Int) (a0_1 : Int) (a0_2 : Int) (a0_3 : Int) (a0_4 : ByteArray) (l0_5 : List Int) : Option (List Int) := (some (([] : List Int) : List Int)).bind fun y109 => (if a0_0 = 2 then (cubbyref07_Uses.j0 k y109 a0_0 (a0_0 == 2) a0_0 a0_1 a0_2 a0_3 a0_4 l0_5) else (if a0_0 = 8 then (cubbyref07_Uses.j0 k y109 a0_0 (a0_0 == 8) a0_0 a0_1 a0_2 a0_3 a0_4 l0_5) else (if a0_0 = 10 then (cubbyref07_Uses.j0 k y109 a0_0 (a0_0 == 10) a0_0 a0_1 a0_2 a0_3 a0_4 l0_5) else (if a0_0 = 14 then (cubbyref07_Uses.j0 k y109 a0_0 (a0_0 == 14) a0_0 a0_1 a0_2 a0_3 a0_4 l0_5) else (cubbyref07_Uses.j0 k y109 a0_0 (a0_0 == 13) a0_0 a0_1 a0_2 a0_3 a0_4 l0_5)))))
set_option maxHeartbeats 8000000 in
set_option maxRecDepth 100000 in
theorem cubbyref07_Uses.calls (k : Nat) (a0_0 : Int) (a0_1 : Int) (a0_2 : Int) (a0_3 : Int) (a0_4 : ByteArray) (A0_5 : Option Addr) (c0_5 : Nat) (l0_5 : List Int) (r : List Int) (w : World) (hr0_5 : Kd.C (Kd.int .i64) w A0_5 l0_5.length l0_5) (hc0_5 : l0_5.length ≤ c0_5) (h : cubbyref07_Uses.f k a0_0 a0_1 a0_2 a0_3 a0_4 l0_5 = some r) :
  Calls Tryd.prog 69 #[.agg #[.int .i64 a0_0, .int .i64 a0_1, .int .i64 a0_2, .int .i64 a0_3, .string a0_4, .slice A0_5 l0_5.length c0_5]] w fun e w' => ∃ v0_ : Value, e = .returned (v0_) ∧ Kd.R (Kd.int .i64) 3 w' w.heap.size (fun _ => True) v0_ r ∧ Below w.heap.size w w' := by
 have hu32 := Tryd.underlying32
 have HR0_5 := Aside0.mk hr0_5
 have HC0_5 := Aside0.mk hc0_5
 clear hr0_5 hc0_5
 have HB := Aside0.mk (Below.refl w.heap.size w)
 have H : ((some (([] : List Int) : List Int)).bind fun y109 => (if a0_0 = 2 then (cubbyref07_Uses.j0 k y109 a0_0 (a0_0 == 2) a0_0 a0_1 a0_2 a0_3 a0_4 l0_5) else (if a0_0 = 8 then (cubbyref07_Uses.j0 k y109 a0_0 (a0_0 == 8) a0_0 a0_1 a0_2 a0_3 a0_4 l0_5) else (if a0_0 = 10 then (cubbyref07_Uses.j0 k y109 a0_0 (a0_0 == 10) a0_0 a0_1 a0_2 a0_3 a0_4 l0_5) else (if a0_0 = 14 then (cubbyref07_Uses.j0 k y109 a0_0 (a0_0 == 14) a0_0 a0_1 a0_2 a0_3 a0_4 l0_5) else (cubbyref07_Uses.j0 k y109 a0_0 (a0_0 == 13) a0_0 a0_1 a0_2 a0_3 a0_4 l0_5)))))) = some r := h
 clear h
 obtain ⟨y109, hy109⟩ : ∃ y_ : List Int, y_ = (([] : List Int)) := ⟨_, rfl⟩
 replace H : (if a0_0 = 2 then (cubbyref07_Uses.j0 k y109 a0_0 (a0_0 == 2) a0_0 a0_1 a0_2 a0_3 a0_4 l0_5) else (if a0_0 = 8 then (cubbyref07_Uses.j0 k y109 a0_0 (a0_0 == 8) a0_0 a0_1 a0_2 a0_3 a0_4 l0_5) else (if a0_0 = 10 then (cubbyref07_Uses.j0 k y109 a0_0 (a0_0 == 10) a0_0 a0_1 a0_2 a0_3 a0_4 l0_5) else (if a0_0 = 14 then (cubbyref07_Uses.j0 k y109 a0_0 (a0_0 == 14) a0_0 a0_1 a0_2 a0_3 a0_4 l0_5) else (cubbyref07_Uses.j0 k y109 a0_0 (a0_0 == 13) a0_0 a0_1 a0_2 a0_3 a0_4 l0_5))))) = some r := by first | (rw [hy109]; with_reducible exact H) | (have H2_ := (Option.bind_some _ _).symm.trans H; rw [hy109]; with_reducible exact H2_) | (have H2_ := (Option.bind_some _ _).symm.trans H; with_reducible exact H2_) | with_reducible exact H | (rw [hy109]; exact H) | exact H
 have Ny109 := Aside0.mk hy109
 clear hy109
 have HC2 := Aside0.mk H
 clear H
 go_enter Tryd.func69, Tryd.ntmps69
 go_upto_if 7 with (first | ((with_reducible refine gate_dst (N := 1) rfl ?_); refine box_event ?hg (N := 1) ?hd (cs := #[.int .i64 a0_0, .int .i64 a0_1, .int .i64 a0_2, .int .i64 a0_3, .string a0_4, .slice A0_5 l0_5.length c0_5]) (t := 32) ?hr ?_; (case hd => rfl); (case hg => rfl); (case hr => first | (go_simp; done) | (go_simp; rfl)); intro gb108 hg w3 hbox hb; have n0_ := Aside0.mk (below_step (by repeat (first | (with_reducible first | exact HB.out | apply bA | apply bN | apply bD) | exact HB.out)) hb); have n1_ := Aside0.mk (hbox); have n2_ := Aside0.mk ((by rw [hg]; exact (below_size (by repeat (first | (with_reducible first | exact HB.out | apply bA | apply bN | apply bD) | exact HB.out))) : w.heap.size ≤ gb108)); have n3_ := Aside0.mk ((by rw [hg]; exact (below_size (by repeat (first | (with_reducible first | exact HB.out | apply bA | apply bN | apply bD) | exact HB.out))) : w.heap.size ≤ gb108)); clear HB; have HB := n0_; have BK108 := n1_; have GW108 := n2_; have GE108 := n3_; clear n0_ n1_ n2_ n3_; clear hb hbox hg) | ((with_reducible refine gate_dst (N := 4) rfl ?_); refine Kd.R_lit (Kd.int .i64) _ 3 ?hg (N := 4) ?hd (xs := ([] : List Int)) (inner := []) (ok := fun _ => True) (okp := fun _ => True) ?hr ?hp (fun _ hk => hk) trivial (Below.refl _ _) (Nat.le_refl _) (by simp) ?_; (case hd => rfl); (case hg => rfl); (case hr => first | (go_simp; done) | (go_simp; rfl)); (case hp => exact (Reps.none _ _)); intro v110 w4 ho5 hb hg_ hnew_; clear hg_ hnew_; (first | rw [← Ny109.out] at ho5 | (simp only [Int.reduceToNat] at ho5; rw [← Ny109.out] at ho5)); have n0_ := Aside0.mk (Kd.R_lower ho5 (below_size (by repeat (first | (with_reducible first | exact HB.out | apply bA | apply bN | apply bD | refine bS ?_ GE108.out) | exact HB.out)))); have n1_ := Aside0.mk (blk_below (g := gb108) (o := .cells #[.int .i64 a0_0, .int .i64 a0_1, .int .i64 a0_2, .int .i64 a0_3, .string a0_4, .slice A0_5 l0_5.length c0_5] 32 (0, 0)) (by (with_reducible repeat (first | refine kN ?_ _ | refine blk_drew ?_ | refine kA ?_ _)); exact BK108.out) hb); have n2_ := Aside0.mk (below_step (by repeat (first | (with_reducible first | exact HB.out | apply bA | apply bN | apply bD | refine bS ?_ GE108.out) | exact HB.out)) hb); clear BK108; clear HB; have HO111 := n0_; have BK108 := n1_; have HB := n2_; clear n0_ n1_ n2_; clear hb ho5; have hcz6_0 : w4.cell? ⟨gb108, 0, none⟩ = some (.int .i64 a0_0) := (bC BK108.out 0).trans rfl; have hcz6_1 : w4.cell? ⟨gb108, 1, none⟩ = some (.int .i64 a0_1) := (bC BK108.out 1).trans rfl; have hcz6_2 : w4.cell? ⟨gb108, 2, none⟩ = some (.int .i64 a0_2) := (bC BK108.out 2).trans rfl; have hcz6_3 : w4.cell? ⟨gb108, 3, none⟩ = some (.int .i64 a0_3) := (bC BK108.out 3).trans rfl; have hcz6_4 : w4.cell? ⟨gb108, 4, none⟩ = some (.string a0_4) := (bC BK108.out 4).trans rfl; have hcz6_5 : w4.cell? ⟨gb108, 5, none⟩ = some (.slice A0_5 l0_5.length c0_5) := (bC BK108.out 5).trans rfl; have hfz6_0 := bZ BK108.out 0; have hfz6_1 := bZ BK108.out 1; have hfz6_2 := bZ BK108.out 2; have hfz6_3 := bZ BK108.out 3; have hfz6_4 := bZ BK108.out 4; have hfz6_5 := bZ BK108.out 5))
 (try simp only [Act.put, List.setIfInBounds_toArray, List.set_cons_zero, List.set_cons_succ])
 go_cut [7] (fun v7 wc => ∃ (kq : Nat) (x7_1 : Bool), v7 = .bool x7_1 ∧ Aside0 (cubbyref07_Uses.j0 kq y109 a0_0 x7_1 a0_0 a0_1 a0_2 a0_3 a0_4 l0_5 = some r) ∧ Aside0 (kq ≤ k) ∧ Aside0 (Kd.R (Kd.int .i64) 3 wc w.heap.size (fun _ => True) v110 y109) ∧ Aside0 (wc.heap[gb108]? = some (.cells #[.int .i64 a0_0, .int .i64 a0_1, .int .i64 a0_2, .int .i64 a0_3, .string a0_4, (.slice A0_5 l0_5.length c0_5)] 32 (0, 0))) ∧ Aside0 (Below w.heap.size w wc))
 case first =>
  have H := HC2.out
  clear HC2
  by_cases c7 : a0_0 = 2
  ·rw [if_pos c7] at H
   have c7b0 : (a0_0 == 2) = true := beq_iff_eq.mpr c7
   have c7b1 : (a0_0 != 2) = false := bne_eq_false_iff_eq.mpr c7
   clear c7
   (first | rw [c7b0] | (simp only [i64_w]; rw [c7b0]) | skip)
   have H' := Aside0.mk H
   clear H
   go_wp2
   go_meet
   case rel => exact ⟨_, ((a0_0 == 2)), (by first | rfl | (simp; done) | (simp [*]; done)), H', ⟨by first | omega | exact Nat.le_refl _⟩, ⟨by (with_reducible repeat (first | apply Kd.R_alloc | apply Kd.R_drewN | apply Kd.R_drew)); exact HO111.out⟩, ⟨by (with_reducible repeat (first | refine kN ?_ _ | refine blk_drew ?_ | refine kA ?_ _)); exact BK108.out⟩, ⟨by repeat (first | (with_reducible first | exact HB.out | apply bA | apply bN | apply bD | refine bS ?_ GE108.out) | exact HB.out)⟩⟩
  ·rw [if_neg c7] at H
   have c7b0 : (a0_0 == 2) = false := beq_eq_false_iff_ne.mpr c7
   have c7b1 : (a0_0 != 2) = true := bne_iff_ne.mpr c7
   (first | rw [c7b0] | (simp only [i64_w]; rw [c7b0]) | skip)
   by_cases c8 : a0_0 = 8
   ·rw [if_pos c8] at H
    have c8b0 : (a0_0 == 8) = true := beq_iff_eq.mpr c8
    have c8b1 : (a0_0 != 8) = false := bne_eq_false_iff_eq.mpr c8
    clear c8
    have H' := Aside0.mk H
    clear H
    go_wp2
    go_meet
    case rel => exact ⟨_, ((a0_0 == 8)), (by first | rfl | (simp; done) | (simp [*]; done)), H', ⟨by first | omega | exact Nat.le_refl _⟩, ⟨by (with_reducible repeat (first | apply Kd.R_alloc | apply Kd.R_drewN | apply Kd.R_drew)); exact HO111.out⟩, ⟨by (with_reducible repeat (first | refine kN ?_ _ | refine blk_drew ?_ | refine kA ?_ _)); exact BK108.out⟩, ⟨by repeat (first | (with_reducible first | exact HB.out | apply bA | apply bN | apply bD | refine bS ?_ GE108.out) | exact HB.out)⟩⟩
   ·rw [if_neg c8] at H
    have c8b0 : (a0_0 == 8) = false := beq_eq_false_iff_ne.mpr c8
    have c8b1 : (a0_0 != 8) = true := bne_iff_ne.mpr c8
    by_cases c9 : a0_0 = 10
    ·rw [if_pos c9] at H
     have c9b0 : (a0_0 == 10) = true := beq_iff_eq.mpr c9
     have c9b1 : (a0_0 != 10) = false := bne_eq_false_iff_eq.mpr c9
     clear c9
     have H' := Aside0.mk H
     clear H
     go_wp2
     go_meet
     case rel => exact ⟨_, ((a0_0 == 10)), (by first | rfl | (simp; done) | (simp [*]; done)), H', ⟨by first | omega | exact Nat.le_refl _⟩, ⟨by (with_reducible repeat (first | apply Kd.R_alloc | apply Kd.R_drewN | apply Kd.R_drew)); exact HO111.out⟩, ⟨by (with_reducible repeat (first | refine kN ?_ _ | refine blk_drew ?_ | refine kA ?_ _)); exact BK108.out⟩, ⟨by repeat (first | (with_reducible first | exact HB.out | apply bA | apply bN | apply bD | refine bS ?_ GE108.out) | exact HB.out)⟩⟩
    ·rw [if_neg c9] at H
     have c9b0 : (a0_0 == 10) = false := beq_eq_false_iff_ne.mpr c9
     have c9b1 : (a0_0 != 10) = true := bne_iff_ne.mpr c9
     by_cases c10 : a0_0 = 14
     ·rw [if_pos c10] at H
      have c10b0 : (a0_0 == 14) = true := beq_iff_eq.mpr c10
      have c10b1 : (a0_0 != 14) = false := bne_eq_false_iff_eq.mpr c10
      clear c10
      have H' := Aside0.mk H
      clear H
      go_wp2
      go_meet
      case rel => exact ⟨_, ((a0_0 == 14)), (by first | rfl | (simp; done) | (simp [*]; done)), H', ⟨by first | omega | exact Nat.le_refl _⟩, ⟨by (with_reducible repeat (first | apply Kd.R_alloc | apply Kd.R_drewN | apply Kd.R_drew)); exact HO111.out⟩, ⟨by (with_reducible repeat (first | refine kN ?_ _ | refine blk_drew ?_ | refine kA ?_ _)); exact BK108.out⟩, ⟨by repeat (first | (with_reducible first | exact HB.out | apply bA | apply bN | apply bD | refine bS ?_ GE108.out) | exact HB.out)⟩⟩
     ·rw [if_neg c10] at H
      have c10b0 : (a0_0 == 14) = false := beq_eq_false_iff_ne.mpr c10
      have c10b1 : (a0_0 != 14) = true := bne_iff_ne.mpr c10
      have H' := Aside0.mk H
      clear H
      go_wp2
      go_meet
      case rel => exact ⟨_, ((a0_0 == 13)), (by first | rfl | (simp; done) | (simp [*]; done)), H', ⟨by first | omega | exact Nat.le_refl _⟩, ⟨by (with_reducible repeat (first | apply Kd.R_alloc | apply Kd.R_drewN | apply Kd.R_drew)); exact HO111.out⟩, ⟨by (with_reducible repeat (first | refine kN ?_ _ | refine blk_drew ?_ | refine kA ?_ _)); exact BK108.out⟩, ⟨by repeat (first | (with_reducible first | exact HB.out | apply bA | apply bN | apply bD | refine bS ?_ GE108.out) | exact HB.out)⟩⟩
 case rest =>
  clear HC2
  try clear c1
  try clear p2
  try clear c6
  try clear c7
  try clear c7b0
  try clear c7b1
  try clear c8
  try clear c8b0
  try clear c8b1
  try clear c9
  try clear c9b0
  try clear c9b1
  try clear c10
  try clear c10b0
  try clear c10b1
  try clear hcz6_0
  try clear hcz6_1
  try clear hcz6_2
  try clear hcz6_3
  try clear hcz6_4
  try clear hcz6_5
  try clear hfz6_0
  try clear hfz6_1
  try clear hfz6_2
  try clear hfz6_3
  try clear hfz6_4
  try clear hfz6_5
  obtain ⟨kq, x7_1, rfl, HA, HJ1, HO_3, BK108, HB⟩ := hcut
  cases kq with
  | zero => exact absurd HA.out (by simp [cubbyref07_Uses.j0])
  | succ kj1 =>
   have H := HA.out
   clear HA
   simp only [cubbyref07_Uses.j0] at H
   by_cases c11 : x7_1 = true
   ·subst c11
    have H1 : (if y109.length < 17592186044416 then (some (y109 ++ [a0_2])) else (none)) = some r := by rw [if_pos rfl] at H; exact H
    clear H
    have H := H1
    clear H1
    by_cases c12 : y109.length < 17592186044416
    ·rw [if_pos c12] at H
     have LMc12 := Aside0.mk c12
     clear c12
     obtain ⟨y112, hy112⟩ : ∃ y_ : List Int, y_ = (y109 ++ [a0_2]) := ⟨_, rfl⟩
     replace H : (some y112) = some r := by first | (rw [hy112]; with_reducible exact H) | (have H2_ := (Option.bind_some _ _).symm.trans H; rw [hy112]; with_reducible exact H2_) | (have H2_ := (Option.bind_some _ _).symm.trans H; with_reducible exact H2_) | with_reducible exact H | (rw [hy112]; exact H) | exact H
     have Ny112 := Aside0.mk hy112
     clear hy112
     obtain rfl := Option.some.inj H
     have hcz13_0 : wc.cell? ⟨gb108, 0, none⟩ = some (.int .i64 a0_0) := (bC BK108.out 0).trans rfl
     have hcz13_1 : wc.cell? ⟨gb108, 1, none⟩ = some (.int .i64 a0_1) := (bC BK108.out 1).trans rfl
     have hcz13_2 : wc.cell? ⟨gb108, 2, none⟩ = some (.int .i64 a0_2) := (bC BK108.out 2).trans rfl
     have hcz13_3 : wc.cell? ⟨gb108, 3, none⟩ = some (.int .i64 a0_3) := (bC BK108.out 3).trans rfl
     have hcz13_4 : wc.cell? ⟨gb108, 4, none⟩ = some (.string a0_4) := (bC BK108.out 4).trans rfl
     have hcz13_5 : wc.cell? ⟨gb108, 5, none⟩ = some (.slice A0_5 l0_5.length c0_5) := (bC BK108.out 5).trans rfl
     have hfz13_0 := bZ BK108.out 0
     have hfz13_1 := bZ BK108.out 1
     have hfz13_2 := bZ BK108.out 2
     have hfz13_3 := bZ BK108.out 3
     have hfz13_4 := bZ BK108.out 4
     have hfz13_5 := bZ BK108.out 5
     go_wp2_with (first | ((with_reducible refine gate_builtin (b := .append) (xs := #[.tmp 13, .tmp 16]) rfl ?_); at_builtin; refine Kd.R_append (Kd.int .i64) (w0 := w) w.heap.size rfl (.tmp 13) (.tmp 16) 26 3 (.int .i64 0) 8 rfl Tryd.underlying26 info3 rfl (by decide) (by omega) v110 y109 a0_2 [.int .i64 a0_2] (fun _ => True) (fun _ => False) rfl rfl ?aP (fun _ hk => hk.elim) ?aF ?aO ?aB ?aS ?aL ?_; (case aP => exact rfl); (case aB => exact (by repeat (first | (with_reducible first | exact HB.out | apply bA | apply bN | apply bD | refine bS ?_ GE108.out) | exact HB.out))); (case aF => exact (fun _ _ => trivial)); (case aO => exact (by (with_reducible repeat (first | apply Kd.R_alloc | apply Kd.R_drewN | apply Kd.R_drew)); exact HO_3.out)); (case aS => exact (below_size (by repeat (first | (with_reducible first | exact HB.out | apply bA | apply bN | apply bD | refine bS ?_ GE108.out) | exact HB.out)))); (case aL => have := LMc12.out; omega); intro v113 w14 ho hb hg hat; rw [← Ny112.out] at ho; have n0_ := Aside0.mk (blk_grown (g := gb108) (o := .cells #[.int .i64 a0_0, .int .i64 a0_1, .int .i64 a0_2, .int .i64 a0_3, .string a0_4, .slice A0_5 l0_5.length c0_5] 32 (0, 0)) (by (with_reducible repeat (first | refine kN ?_ _ | refine blk_drew ?_ | refine kA ?_ _)); exact BK108.out) hg (Kd.R_ne HO_3.out BK108.out (by decide))); have n1_ := Aside0.mk (hb); have n2_ := Aside0.mk (ho); clear BK108; clear HB; clear HO_3; have BK108 := n0_; have HB := n1_; have HO114 := n2_; clear n0_ n1_ n2_; clear ho hb hg hat))
     go_ret
     exact ⟨_, by first | rfl | (simp [errW_none, errW_some] <;> rfl) | (simp [*, errW_none, errW_some] <;> rfl), by (with_reducible repeat (first | apply Kd.R_alloc | apply Kd.R_drewN | apply Kd.R_drew)); exact HO114.out, by repeat (first | (with_reducible first | exact HB.out | apply bA | apply bN | apply bD | refine bS ?_ GE108.out) | exact HB.out)⟩
    ·rw [if_neg c12] at H
     exact absurd H (by simp)
   ·replace c11 := Bool.eq_false_iff.mpr c11
    subst c11
    have H1 : (if a0_0 = 3 then (cubbyref07_Uses.j1 kj1 y109 a0_0 (a0_0 == 3) a0_0 a0_1 a0_2 a0_3 a0_4 l0_5) else (if a0_0 = 4 then (cubbyref07_Uses.j1 kj1 y109 a0_0 (a0_0 == 4) a0_0 a0_1 a0_2 a0_3 a0_4 l0_5) else (if a0_0 = 5 then (cubbyref07_Uses.j1 kj1 y109 a0_0 (a0_0 == 5) a0_0 a0_1 a0_2 a0_3 a0_4 l0_5) else (if a0_0 = 6 then (cubbyref07_Uses.j1 kj1 y109 a0_0 (a0_0 == 6) a0_0 a0_1 a0_2 a0_3 a0_4 l0_5) else (if a0_0 = 7 then (cubbyref07_Uses.j1 kj1 y109 a0_0 (a0_0 == 7) a0_0 a0_1 a0_2 a0_3 a0_4 l0_5) else (cubbyref07_Uses.j1 kj1 y109 a0_0 (a0_0 == 9) a0_0 a0_1 a0_2 a0_3 a0_4 l0_5)))))) = some r := by rw [if_neg (show ¬ (false = true) by decide)] at H; exact H
    clear H
    have H := H1
    clear H1
    have HC15 := Aside0.mk H
    clear H
    go_upto_if 18 with (fail)
    go_cut [18] (fun v18 wc => ∃ (kq : Nat) (x18_14 : Bool), v18 = .bool x18_14 ∧ Aside0 (cubbyref07_Uses.j1 kq y109 a0_0 x18_14 a0_0 a0_1 a0_2 a0_3 a0_4 l0_5 = some r) ∧ Aside0 (kq ≤ kj1) ∧ Aside0 (Kd.R (Kd.int .i64) 3 wc w.heap.size (fun _ => True) v110 y109) ∧ Aside0 (wc.heap[gb108]? = some (.cells #[.int .i64 a0_0, .int .i64 a0_1, .int .i64 a0_2, .int .i64 a0_3, .string a0_4, (.slice A0_5 l0_5.length c0_5)] 32 (0, 0))) ∧ Aside0 (Below w.heap.size w wc))
    case first =>
     have H := HC15.out
     clear HC15
     by_cases c16 : a0_0 = 3
     ·rw [if_pos c16] at H
      have c16b0 : (a0_0 == 3) = true := beq_iff_eq.mpr c16
      have c16b1 : (a0_0 != 3) = false := bne_eq_false_iff_eq.mpr c16
      clear c16
      (first | rw [c16b0] | (simp only [i64_w]; rw [c16b0]) | skip)
      have H' := Aside0.mk H
      clear H
      go_wp2
      go_meet
      case rel => exact ⟨_, ((a0_0 == 3)), (by first | rfl | (simp; done) | (simp [*]; done)), H', ⟨by have := HJ1.out; first | omega | exact Nat.le_refl _⟩, ⟨by (with_reducible repeat (first | apply Kd.R_alloc | apply Kd.R_drewN | apply Kd.R_drew)); exact HO_3.out⟩, ⟨by (with_reducible repeat (first | refine kN ?_ _ | refine blk_drew ?_ | refine kA ?_ _)); exact BK108.out⟩, ⟨by repeat (first | (with_reducible first | exact HB.out | apply bA | apply bN | apply bD | refine bS ?_ GE108.out) | exact HB.out)⟩⟩
     ·rw [if_neg c16] at H
      have c16b0 : (a0_0 == 3) = false := beq_eq_false_iff_ne.mpr c16
      have c16b1 : (a0_0 != 3) = true := bne_iff_ne.mpr c16
      (first | rw [c16b0] | (simp only [i64_w]; rw [c16b0]) | skip)
      by_cases c17 : a0_0 = 4
      ·rw [if_pos c17] at H
       have c17b0 : (a0_0 == 4) = true := beq_iff_eq.mpr c17
       have c17b1 : (a0_0 != 4) = false := bne_eq_false_iff_eq.mpr c17
       clear c17
       have H' := Aside0.mk H
       clear H
       go_wp2
       go_meet
       case rel => exact ⟨_, ((a0_0 == 4)), (by first | rfl | (simp; done) | (simp [*]; done)), H', ⟨by have := HJ1.out; first | omega | exact Nat.le_refl _⟩, ⟨by (with_reducible repeat (first | apply Kd.R_alloc | apply Kd.R_drewN | apply Kd.R_drew)); exact HO_3.out⟩, ⟨by (with_reducible repeat (first | refine kN ?_ _ | refine blk_drew ?_ | refine kA ?_ _)); exact BK108.out⟩, ⟨by repeat (first | (with_reducible first | exact HB.out | apply bA | apply bN | apply bD | refine bS ?_ GE108.out) | exact HB.out)⟩⟩
      ·rw [if_neg c17] at H
       have c17b0 : (a0_0 == 4) = false := beq_eq_false_iff_ne.mpr c17
       have c17b1 : (a0_0 != 4) = true := bne_iff_ne.mpr c17
       by_cases c18 : a0_0 = 5
       ·rw [if_pos c18] at H
        have c18b0 : (a0_0 == 5) = true := beq_iff_eq.mpr c18
        have c18b1 : (a0_0 != 5) = false := bne_eq_false_iff_eq.mpr c18
        clear c18
        have H' := Aside0.mk H
        clear H
        go_wp2
        go_meet
        case rel => exact ⟨_, ((a0_0 == 5)), (by first | rfl | (simp; done) | (simp [*]; done)), H', ⟨by have := HJ1.out; first | omega | exact Nat.le_refl _⟩, ⟨by (with_reducible repeat (first | apply Kd.R_alloc | apply Kd.R_drewN | apply Kd.R_drew)); exact HO_3.out⟩, ⟨by (with_reducible repeat (first | refine kN ?_ _ | refine blk_drew ?_ | refine kA ?_ _)); exact BK108.out⟩, ⟨by repeat (first | (with_reducible first | exact HB.out | apply bA | apply bN | apply bD | refine bS ?_ GE108.out) | exact HB.out)⟩⟩
       ·rw [if_neg c18] at H
        have c18b0 : (a0_0 == 5) = false := beq_eq_false_iff_ne.mpr c18
        have c18b1 : (a0_0 != 5) = true := bne_iff_ne.mpr c18
        by_cases c19 : a0_0 = 6
        ·rw [if_pos c19] at H
         have c19b0 : (a0_0 == 6) = true := beq_iff_eq.mpr c19
         have c19b1 : (a0_0 != 6) = false := bne_eq_false_iff_eq.mpr c19
         clear c19
         have H' := Aside0.mk H
         clear H
         go_wp2
         go_meet
         case rel => exact ⟨_, ((a0_0 == 6)), (by first | rfl | (simp; done) | (simp [*]; done)), H', ⟨by have := HJ1.out; first | omega | exact Nat.le_refl _⟩, ⟨by (with_reducible repeat (first | apply Kd.R_alloc | apply Kd.R_drewN | apply Kd.R_drew)); exact HO_3.out⟩, ⟨by (with_reducible repeat (first | refine kN ?_ _ | refine blk_drew ?_ | refine kA ?_ _)); exact BK108.out⟩, ⟨by repeat (first | (with_reducible first | exact HB.out | apply bA | apply bN | apply bD | refine bS ?_ GE108.out) | exact HB.out)⟩⟩
        ·rw [if_neg c19] at H
         have c19b0 : (a0_0 == 6) = false := beq_eq_false_iff_ne.mpr c19
         have c19b1 : (a0_0 != 6) = true := bne_iff_ne.mpr c19
         by_cases c20 : a0_0 = 7
         ·rw [if_pos c20] at H
          have c20b0 : (a0_0 == 7) = true := beq_iff_eq.mpr c20
          have c20b1 : (a0_0 != 7) = false := bne_eq_false_iff_eq.mpr c20
          clear c20
          have H' := Aside0.mk H
          clear H
          go_wp2
          go_meet
          case rel => exact ⟨_, ((a0_0 == 7)), (by first | rfl | (simp; done) | (simp [*]; done)), H', ⟨by have := HJ1.out; first | omega | exact Nat.le_refl _⟩, ⟨by (with_reducible repeat (first | apply Kd.R_alloc | apply Kd.R_drewN | apply Kd.R_drew)); exact HO_3.out⟩, ⟨by (with_reducible repeat (first | refine kN ?_ _ | refine blk_drew ?_ | refine kA ?_ _)); exact BK108.out⟩, ⟨by repeat (first | (with_reducible first | exact HB.out | apply bA | apply bN | apply bD | refine bS ?_ GE108.out) | exact HB.out)⟩⟩
         ·rw [if_neg c20] at H
          have c20b0 : (a0_0 == 7) = false := beq_eq_false_iff_ne.mpr c20
          have c20b1 : (a0_0 != 7) = true := bne_iff_ne.mpr c20
          have H' := Aside0.mk H
          clear H
          go_wp2
          go_meet
          case rel => exact ⟨_, ((a0_0 == 9)), (by first | rfl | (simp; done) | (simp [*]; done)), H', ⟨by have := HJ1.out; first | omega | exact Nat.le_refl _⟩, ⟨by (with_reducible repeat (first | apply Kd.R_alloc | apply Kd.R_drewN | apply Kd.R_drew)); exact HO_3.out⟩, ⟨by (with_reducible repeat (first | refine kN ?_ _ | refine blk_drew ?_ | refine kA ?_ _)); exact BK108.out⟩, ⟨by repeat (first | (with_reducible first | exact HB.out | apply bA | apply bN | apply bD | refine bS ?_ GE108.out) | exact HB.out)⟩⟩
    case rest =>
     clear HC15
     try clear c1
     try clear c2
     try clear p2
     try clear c6
     try clear c7
     try clear c7b0
     try clear c7b1
     try clear c8
     try clear c8b0
     try clear c8b1
     try clear c9
     try clear c9b0
     try clear c9b1
     try clear c10
     try clear c10b0
     try clear c10b1
     try clear c11
     try clear c12
     try clear c16
     try clear c16b0
     try clear c16b1
     try clear c17
     try clear c17b0
     try clear c17b1
     try clear c18
     try clear c18b0
     try clear c18b1
     try clear c19
     try clear c19b0
     try clear c19b1
     try clear c20
     try clear c20b0
     try clear c20b1
     try clear hcz13_0
     try clear hcz13_1
     try clear hcz13_2
     try clear hcz13_3
     try clear hcz13_4
     try clear hcz13_5
     try clear hcz6_0
     try clear hcz6_1
     try clear hcz6_2
     try clear hcz6_3
     try clear hcz6_4
     try clear hcz6_5
     try clear hfz13_0
     try clear hfz13_1
     try clear hfz13_2
     try clear hfz13_3
     try clear hfz13_4
     try clear hfz13_5
     try clear hfz6_0
     try clear hfz6_1
     try clear hfz6_2
     try clear hfz6_3
     try clear hfz6_4
     try clear hfz6_5
     try clear p2
     obtain ⟨kq, x18_14, rfl, HA, HJ14, HO_3, BK108, HB⟩ := hcut
     cases kq with
     | zero => exact absurd HA.out (by simp [cubbyref07_Uses.j1])
     | succ kj14 =>
      have H := HA.out
      clear HA
      simp only [cubbyref07_Uses.j1] at H
      by_cases c21 : x18_14 = true
      ·subst c21
       have H1 : ((some (([a0_2, a0_3] : List Int) : List Int)).bind fun y115 => (if y109.length + y115.length < 17592186044416 then (some (y109 ++ y115)) else (none))) = some r := by rw [if_pos rfl] at H; exact H
       clear H
       have H := H1
       clear H1
       obtain ⟨y115, hy115⟩ : ∃ y_ : List Int, y_ = (([a0_2, a0_3] : List Int)) := ⟨_, rfl⟩
       replace H : (if y109.length + y115.length < 17592186044416 then (some (y109 ++ y115)) else (none)) = some r := by first | (rw [hy115]; with_reducible exact H) | (have H2_ := (Option.bind_some _ _).symm.trans H; rw [hy115]; with_reducible exact H2_) | (have H2_ := (Option.bind_some _ _).symm.trans H; with_reducible exact H2_) | with_reducible exact H | (rw [hy115]; exact H) | exact H
       have Ny115 := Aside0.mk hy115
       clear hy115
       by_cases c22 : y109.length + y115.length < 17592186044416
       ·rw [if_pos c22] at H
        have LMc22 := Aside0.mk c22
        clear c22
        obtain ⟨y118, hy118⟩ : ∃ y_ : List Int, y_ = (y109 ++ y115) := ⟨_, rfl⟩
        replace H : (some y118) = some r := by first | (rw [hy118]; with_reducible exact H) | (have H2_ := (Option.bind_some _ _).symm.trans H; rw [hy118]; with_reducible exact H2_) | (have H2_ := (Option.bind_some _ _).symm.trans H; with_reducible exact H2_) | with_reducible exact H | (rw [hy118]; exact H) | exact H
        have Ny118 := Aside0.mk hy118
        clear hy118
        obtain rfl := Option.some.inj H
        have hcz23_0 : wc.cell? ⟨gb108, 0, none⟩ = some (.int .i64 a0_0) := (bC BK108.out 0).trans rfl
        have hcz23_1 : wc.cell? ⟨gb108, 1, none⟩ = some (.int .i64 a0_1) := (bC BK108.out 1).trans rfl
        have hcz23_2 : wc.cell? ⟨gb108, 2, none⟩ = some (.int .i64 a0_2) := (bC BK108.out 2).trans rfl
        have hcz23_3 : wc.cell? ⟨gb108, 3, none⟩ = some (.int .i64 a0_3) := (bC BK108.out 3).trans rfl
        have hcz23_4 : wc.cell? ⟨gb108, 4, none⟩ = some (.string a0_4) := (bC BK108.out 4).trans rfl
        have hcz23_5 : wc.cell? ⟨gb108, 5, none⟩ = some (.slice A0_5 l0_5.length c0_5) := (bC BK108.out 5).trans rfl
        have hfz23_0 := bZ BK108.out 0
        have hfz23_1 := bZ BK108.out 1
        have hfz23_2 := bZ BK108.out 2
        have hfz23_3 := bZ BK108.out 3
        have hfz23_4 := bZ BK108.out 4
        have hfz23_5 := bZ BK108.out 5
        go_wp2_with (first | ((with_reducible refine gate_dst (N := 30) rfl ?_); refine Kd.R_lit (Kd.int .i64) _ 3 ?hg (N := 30) ?hd (xs := ([a0_2, a0_3] : List Int)) (inner := [.int .i64 a0_2, .int .i64 a0_3]) (ok := fun _ => True) (okp := fun _ => True) ?hr ?hp (fun _ hk => hk) trivial (Below.refl _ _) (Nat.le_refl _) (by simp) ?_; (case hd => rfl); (case hg => rfl); (case hr => first | (go_simp; done) | (go_simp; rfl)); (case hp => exact (Reps.one (show Kd.M (Kd.int .i64) _ _ _ a0_2 [.int .i64 a0_2] from rfl) (Reps.one (show Kd.M (Kd.int .i64) _ _ _ a0_3 [.int .i64 a0_3] from rfl) (Reps.none _ _)))); intro v116 w24 ho25 hb hg_ hnew_; clear hg_ hnew_; (first | rw [← Ny115.out] at ho25 | (simp only [Int.reduceToNat] at ho25; rw [← Ny115.out] at ho25)); have n0_ := Aside0.mk (Kd.R_elder' (by (with_reducible repeat (first | apply Kd.R_alloc | apply Kd.R_drewN | apply Kd.R_drew)); exact HO_3.out) (Kd.R_base ho25) hb); have n1_ := Aside0.mk (Kd.R_lower (Kd.R_new' ho25 (Kd.R_lt (by (with_reducible repeat (first | apply Kd.R_alloc | apply Kd.R_drewN | apply Kd.R_drew)); exact HO_3.out))) (below_size (by repeat (first | (with_reducible first | exact HB.out | apply bA | apply bN | apply bD | refine bS ?_ GE108.out) | exact HB.out)))); have n2_ := Aside0.mk (blk_below (g := gb108) (o := .cells #[.int .i64 a0_0, .int .i64 a0_1, .int .i64 a0_2, .int .i64 a0_3, .string a0_4, .slice A0_5 l0_5.length c0_5] 32 (0, 0)) (by (with_reducible repeat (first | refine kN ?_ _ | refine blk_drew ?_ | refine kA ?_ _)); exact BK108.out) hb); have n3_ := Aside0.mk (below_step (by repeat (first | (with_reducible first | exact HB.out | apply bA | apply bN | apply bD | refine bS ?_ GE108.out) | exact HB.out)) hb); clear HO_3; clear BK108; clear HB; have HO_3 := n0_; have HO117 := n1_; have BK108 := n2_; have HB := n3_; clear n0_ n1_ n2_ n3_; clear hb ho25; obtain ⟨Ao27, co27, eo27⟩ := Kd.R_slice HO117.out; subst eo27) | ((with_reducible refine gate_builtin (b := .append) (xs := #[.tmp 25, .tmp 30]) rfl ?_); at_builtin; refine Kd.R_append_rows (Kd.int .i64) (w0 := w) w.heap.size rfl (.tmp 25) (.tmp 30) 26 3 (.int .i64 0) 8 rfl Tryd.underlying26 info3 rfl (by decide) (by omega) v110 y109 y115 _ _ _ (fun k_ => some k_ ≠ (.slice Ao27 y115.length co27 : Value).ownBlock) (fun _ => False) rfl rfl ?aO ?aR (fun _ _ h => h) (fun _ h => h.elim) ?aF ?aB ?aS ?aL ?_; (case aR => repeat (first | exact (Kd.R_reads' HO117.out).2.2 | (with_reducible refine Kd.C_alloc ?_ _) | (with_reducible refine Kd.C_drewN ?_ _) | (with_reducible refine Kd.C_drew ?_))); (case aB => exact (by repeat (first | (with_reducible first | exact HB.out | apply bA | apply bN | apply bD | refine bS ?_ GE108.out) | exact HB.out))); (case aF => exact (fun k_ hk => Kd.fresh' (Kd.R_lt (by (with_reducible repeat (first | apply Kd.R_alloc | apply Kd.R_drewN | apply Kd.R_drew)); exact HO117.out)) k_ hk)); (case aO => exact (by (with_reducible repeat (first | apply Kd.R_alloc | apply Kd.R_drewN | apply Kd.R_drew)); exact Kd.R_mono HO_3.out (fun _ hk => hk.2))); (case aS => exact (below_size (by repeat (first | (with_reducible first | exact HB.out | apply bA | apply bN | apply bD | refine bS ?_ GE108.out) | exact HB.out)))); (case aL => have := LMc22.out; omega); intro v119 w26 ho hb hg hat; rw [← Ny118.out] at ho; have n0_ := Aside0.mk (blk_grown (g := gb108) (o := .cells #[.int .i64 a0_0, .int .i64 a0_1, .int .i64 a0_2, .int .i64 a0_3, .string a0_4, .slice A0_5 l0_5.length c0_5] 32 (0, 0)) (by (with_reducible repeat (first | refine kN ?_ _ | refine blk_drew ?_ | refine kA ?_ _)); exact BK108.out) hg (Kd.R_ne HO_3.out BK108.out (by decide))); have n1_ := Aside0.mk (Kd.R_after (ok := (fun _ => True)) (by (with_reducible repeat (first | apply Kd.R_alloc | apply Kd.R_drewN | apply Kd.R_drew)); exact HO117.out) hg hat); have n2_ := Aside0.mk (hb); have n3_ := Aside0.mk (ho); clear BK108; clear HO117; clear HB; clear HO_3; have BK108 := n0_; have HO117 := n1_; have HB := n2_; have HO120 := n3_; clear n0_ n1_ n2_ n3_; clear ho hb hg hat))
        go_ret
        exact ⟨_, by first | rfl | (simp [errW_none, errW_some] <;> rfl) | (simp [*, errW_none, errW_some] <;> rfl), by (with_reducible repeat (first | apply Kd.R_alloc | apply Kd.R_drewN | apply Kd.R_drew)); exact Kd.R_mono HO120.out (fun _ hk => trivial), by repeat (first | (with_reducible first | exact HB.out | apply bA | apply bN | apply bD | refine bS ?_ GE108.out) | exact HB.out)⟩
       ·rw [if_neg c22] at H
        exact absurd H (by simp)
      ·replace c21 := Bool.eq_false_iff.mpr c21
       subst c21
       have H1 : (if a0_0 = 11 then (if y109.length + l0_5.length < 17592186044416 then (some (y109 ++ l0_5)) else (none)) else (some y109)) = some r := by rw [if_neg (show ¬ (false = true) by decide)] at H; exact H
       clear H
       have H := H1
       clear H1
       by_cases c28 : a0_0 = 11
       ·rw [if_pos c28] at H
        have c28b0 : (a0_0 == 11) = true := beq_iff_eq.mpr c28
        have c28b1 : (a0_0 != 11) = false := bne_eq_false_iff_eq.mpr c28
        clear c28
        by_cases c29 : y109.length + l0_5.length < 17592186044416
        ·rw [if_pos c29] at H
         have LMc29 := Aside0.mk c29
         clear c29
         obtain ⟨y121, hy121⟩ : ∃ y_ : List Int, y_ = (y109 ++ l0_5) := ⟨_, rfl⟩
         replace H : (some y121) = some r := by first | (rw [hy121]; with_reducible exact H) | (have H2_ := (Option.bind_some _ _).symm.trans H; rw [hy121]; with_reducible exact H2_) | (have H2_ := (Option.bind_some _ _).symm.trans H; with_reducible exact H2_) | with_reducible exact H | (rw [hy121]; exact H) | exact H
         have Ny121 := Aside0.mk hy121
         clear hy121
         obtain rfl := Option.some.inj H
         have hcz30_0 : wc.cell? ⟨gb108, 0, none⟩ = some (.int .i64 a0_0) := (bC BK108.out 0).trans rfl
         have hcz30_1 : wc.cell? ⟨gb108, 1, none⟩ = some (.int .i64 a0_1) := (bC BK108.out 1).trans rfl
         have hcz30_2 : wc.cell? ⟨gb108, 2, none⟩ = some (.int .i64 a0_2) := (bC BK108.out 2).trans rfl
         have hcz30_3 : wc.cell? ⟨gb108, 3, none⟩ = some (.int .i64 a0_3) := (bC BK108.out 3).trans rfl
         have hcz30_4 : wc.cell? ⟨gb108, 4, none⟩ = some (.string a0_4) := (bC BK108.out 4).trans rfl
         have hcz30_5 : wc.cell? ⟨gb108, 5, none⟩ = some (.slice A0_5 l0_5.length c0_5) := (bC BK108.out 5).trans rfl
         have hfz30_0 := bZ BK108.out 0
         have hfz30_1 := bZ BK108.out 1
         have hfz30_2 := bZ BK108.out 2
         have hfz30_3 := bZ BK108.out 3
         have hfz30_4 := bZ BK108.out 4
         have hfz30_5 := bZ BK108.out 5
         go_wp2_with (first | ((with_reducible refine gate_builtin (b := .append) (xs := #[.tmp 34, .tmp 36]) rfl ?_); at_builtin; refine Kd.R_append_rows (Kd.int .i64) (w0 := w) w.heap.size rfl (.tmp 34) (.tmp 36) 26 3 (.int .i64 0) 8 rfl Tryd.underlying26 info3 rfl (by decide) (by omega) v110 y109 l0_5 _ _ _ (fun _ => True) (fun _ => False) rfl rfl ?aO ?aR (fun _ _ h => h) (fun _ h => h.elim) ?aF ?aB ?aS ?aL ?_; (case aR => repeat (first | exact (Kd.C_below HR0_5.out HB.out) | (with_reducible refine Kd.C_alloc ?_ _) | (with_reducible refine Kd.C_drewN ?_ _) | (with_reducible refine Kd.C_drew ?_))); (case aB => exact (by repeat (first | (with_reducible first | exact HB.out | apply bA | apply bN | apply bD | refine bS ?_ GE108.out) | exact HB.out))); (case aF => exact (fun _ _ => trivial)); (case aO => exact (by (with_reducible repeat (first | apply Kd.R_alloc | apply Kd.R_drewN | apply Kd.R_drew)); exact HO_3.out)); (case aS => exact (below_size (by repeat (first | (with_reducible first | exact HB.out | apply bA | apply bN | apply bD | refine bS ?_ GE108.out) | exact HB.out)))); (case aL => have := LMc29.out; omega); intro v122 w31 ho hb hg hat; rw [← Ny121.out] at ho; have n0_ := Aside0.mk (blk_grown (g := gb108) (o := .cells #[.int .i64 a0_0, .int .i64 a0_1, .int .i64 a0_2, .int .i64 a0_3, .string a0_4, .slice A0_5 l0_5.length c0_5] 32 (0, 0)) (by (with_reducible repeat (first | refine kN ?_ _ | refine blk_drew ?_ | refine kA ?_ _)); exact BK108.out) hg (Kd.R_ne HO_3.out BK108.out (by decide))); have n1_ := Aside0.mk (hb); have n2_ := Aside0.mk (ho); clear BK108; clear HB; clear HO_3; have BK108 := n0_; have HB := n1_; have HO123 := n2_; clear n0_ n1_ n2_; clear ho hb hg hat))
         go_ret
         exact ⟨_, by first | rfl | (simp [errW_none, errW_some] <;> rfl) | (simp [*, errW_none, errW_some] <;> rfl), by (with_reducible repeat (first | apply Kd.R_alloc | apply Kd.R_drewN | apply Kd.R_drew)); exact HO123.out, by repeat (first | (with_reducible first | exact HB.out | apply bA | apply bN | apply bD | refine bS ?_ GE108.out) | exact HB.out)⟩
        ·rw [if_neg c29] at H
         exact absurd H (by simp)
       ·rw [if_neg c28] at H
        have c28b0 : (a0_0 == 11) = false := beq_eq_false_iff_ne.mpr c28
        have c28b1 : (a0_0 != 11) = true := bne_iff_ne.mpr c28
        obtain rfl := Option.some.inj H
        go_wp2
        go_ret
        exact ⟨_, by first | rfl | (simp [errW_none, errW_some] <;> rfl) | (simp [*, errW_none, errW_some] <;> rfl), by (with_reducible repeat (first | apply Kd.R_alloc | apply Kd.R_drewN | apply Kd.R_drew)); exact HO_3.out, by repeat (first | (with_reducible first | exact HB.out | apply bA | apply bN | apply bD | refine bS ?_ GE108.out) | exact HB.out)⟩
end Go.Proofs.YtoilapjkgligfaaDoor.P
namespace Go.Proofs.YtoilapjkgligfaaDoor.P
open Go.RowKit Go.Proofs.YtoilapjkgligfaaDoorW.PrintWords Go.Proofs.YtoilapjkgligfaaDoorW.PrintLast Go.Proofs.YtoilapjkgligfaaDoorW.PrintMore
attribute [local go_sem] max2_int min2_int max_two min_two max_three min_three max_four min_four 
set_option linter.unusedVariables false
set_option linter.unusedSimpArgs false
def cubbyref07_Targets.f (a0_0 : Int) (a0_1 : Int) (a0_2 : Int) (a0_3 : Int) (a0_4 : ByteArray) (l0_5 : List Int) : Option (List Int) := (some (([] : List Int) : List Int)).bind fun y125 => (if a0_0 = 12 then (if y125.length < 17592186044416 then (some (y125 ++ [a0_2])) else (none)) else (if a0_0 = 13 then ((some (([a0_3, a0_1] : List Int) : List Int)).bind fun y131 => (if y125.length + y131.length < 17592186044416 then (some (y125 ++ y131)) else (none))) else (some y125)))
set_option maxHeartbeats 8000000 in
set_option maxRecDepth 100000 in
theorem cubbyref07_Targets.calls (a0_0 : Int) (a0_1 : Int) (a0_2 : Int) (a0_3 : Int) (a0_4 : ByteArray) (A0_5 : Option Addr) (c0_5 : Nat) (l0_5 : List Int) (r : List Int) (w : World) (hr0_5 : Kd.C (Kd.int .i64) w A0_5 l0_5.length l0_5) (hc0_5 : l0_5.length ≤ c0_5) (h : cubbyref07_Targets.f a0_0 a0_1 a0_2 a0_3 a0_4 l0_5 = some r) :
  Calls Tryd.prog 70 #[.agg #[.int .i64 a0_0, .int .i64 a0_1, .int .i64 a0_2, .int .i64 a0_3, .string a0_4, .slice A0_5 l0_5.length c0_5]] w fun e w' => ∃ v0_ : Value, e = .returned (v0_) ∧ Kd.R (Kd.int .i64) 3 w' w.heap.size (fun _ => True) v0_ r ∧ Below w.heap.size w w' := by
 have hu32 := Tryd.underlying32
 have HR0_5 := Aside0.mk hr0_5
 have HC0_5 := Aside0.mk hc0_5
 clear hr0_5 hc0_5
 have HB := Aside0.mk (Below.refl w.heap.size w)
 have H : ((some (([] : List Int) : List Int)).bind fun y125 => (if a0_0 = 12 then (if y125.length < 17592186044416 then (some (y125 ++ [a0_2])) else (none)) else (if a0_0 = 13 then ((some (([a0_3, a0_1] : List Int) : List Int)).bind fun y131 => (if y125.length + y131.length < 17592186044416 then (some (y125 ++ y131)) else (none))) else (some y125)))) = some r := h
 clear h
 obtain ⟨y125, hy125⟩ : ∃ y_ : List Int, y_ = (([] : List Int)) := ⟨_, rfl⟩
 replace H : (if a0_0 = 12 then (if y125.length < 17592186044416 then (some (y125 ++ [a0_2])) else (none)) else (if a0_0 = 13 then ((some (([a0_3, a0_1] : List Int) : List Int)).bind fun y131 => (if y125.length + y131.length < 17592186044416 then (some (y125 ++ y131)) else (none))) else (some y125))) = some r := by first | (rw [hy125]; with_reducible exact H) | (have H2_ := (Option.bind_some _ _).symm.trans H; rw [hy125]; with_reducible exact H2_) | (have H2_ := (Option.bind_some _ _).symm.trans H; with_reducible exact H2_) | with_reducible exact H | (rw [hy125]; exact H) | exact H
 have Ny125 := Aside0.mk hy125
 clear hy125
 by_cases c2 : a0_0 = 12
 ·rw [if_pos c2] at H
  have c2b0 : (a0_0 == 12) = true := beq_iff_eq.mpr c2
  have c2b1 : (a0_0 != 12) = false := bne_eq_false_iff_eq.mpr c2
  clear c2
  by_cases c3 : y125.length < 17592186044416
  ·rw [if_pos c3] at H
   have LMc3 := Aside0.mk c3
   clear c3
   obtain ⟨y128, hy128⟩ : ∃ y_ : List Int, y_ = (y125 ++ [a0_2]) := ⟨_, rfl⟩
   replace H : (some y128) = some r := by first | (rw [hy128]; with_reducible exact H) | (have H2_ := (Option.bind_some _ _).symm.trans H; rw [hy128]; with_reducible exact H2_) | (have H2_ := (Option.bind_some _ _).symm.trans H; with_reducible exact H2_) | with_reducible exact H | (rw [hy128]; exact H) | exact H
   have Ny128 := Aside0.mk hy128
   clear hy128
   obtain rfl := Option.some.inj H
   go_enter Tryd.func70, Tryd.ntmps70
   go_wp2_with (first | ((with_reducible refine gate_dst (N := 1) rfl ?_); refine box_event ?hg (N := 1) ?hd (cs := #[.int .i64 a0_0, .int .i64 a0_1, .int .i64 a0_2, .int .i64 a0_3, .string a0_4, .slice A0_5 l0_5.length c0_5]) (t := 32) ?hr ?_; (case hd => rfl); (case hg => rfl); (case hr => first | (go_simp; done) | (go_simp; rfl)); intro gb124 hg w4 hbox hb; have n0_ := Aside0.mk (below_step (by repeat (first | (with_reducible first | exact HB.out | apply bA | apply bN | apply bD) | exact HB.out)) hb); have n1_ := Aside0.mk (hbox); have n2_ := Aside0.mk ((by rw [hg]; exact (below_size (by repeat (first | (with_reducible first | exact HB.out | apply bA | apply bN | apply bD) | exact HB.out))) : w.heap.size ≤ gb124)); have n3_ := Aside0.mk ((by rw [hg]; exact (below_size (by repeat (first | (with_reducible first | exact HB.out | apply bA | apply bN | apply bD) | exact HB.out))) : w.heap.size ≤ gb124)); clear HB; have HB := n0_; have BK124 := n1_; have GW124 := n2_; have GE124 := n3_; clear n0_ n1_ n2_ n3_; clear hb hbox hg) | ((with_reducible refine gate_dst (N := 4) rfl ?_); refine Kd.R_lit (Kd.int .i64) _ 3 ?hg (N := 4) ?hd (xs := ([] : List Int)) (inner := []) (ok := fun _ => True) (okp := fun _ => True) ?hr ?hp (fun _ hk => hk) trivial (Below.refl _ _) (Nat.le_refl _) (by simp) ?_; (case hd => rfl); (case hg => rfl); (case hr => first | (go_simp; done) | (go_simp; rfl)); (case hp => exact (Reps.none _ _)); intro v126 w5 ho6 hb hg_ hnew_; clear hg_ hnew_; (first | rw [← Ny125.out] at ho6 | (simp only [Int.reduceToNat] at ho6; rw [← Ny125.out] at ho6)); have n0_ := Aside0.mk (Kd.R_lower ho6 (below_size (by repeat (first | (with_reducible first | exact HB.out | apply bA | apply bN | apply bD | refine bS ?_ GE124.out) | exact HB.out)))); have n1_ := Aside0.mk (blk_below (g := gb124) (o := .cells #[.int .i64 a0_0, .int .i64 a0_1, .int .i64 a0_2, .int .i64 a0_3, .string a0_4, .slice A0_5 l0_5.length c0_5] 32 (0, 0)) (by (with_reducible repeat (first | refine kN ?_ _ | refine blk_drew ?_ | refine kA ?_ _)); exact BK124.out) hb); have n2_ := Aside0.mk (below_step (by repeat (first | (with_reducible first | exact HB.out | apply bA | apply bN | apply bD | refine bS ?_ GE124.out) | exact HB.out)) hb); clear BK124; clear HB; have HO127 := n0_; have BK124 := n1_; have HB := n2_; clear n0_ n1_ n2_; clear hb ho6; have hcz7_0 : w5.cell? ⟨gb124, 0, none⟩ = some (.int .i64 a0_0) := (bC BK124.out 0).trans rfl; have hcz7_1 : w5.cell? ⟨gb124, 1, none⟩ = some (.int .i64 a0_1) := (bC BK124.out 1).trans rfl; have hcz7_2 : w5.cell? ⟨gb124, 2, none⟩ = some (.int .i64 a0_2) := (bC BK124.out 2).trans rfl; have hcz7_3 : w5.cell? ⟨gb124, 3, none⟩ = some (.int .i64 a0_3) := (bC BK124.out 3).trans rfl; have hcz7_4 : w5.cell? ⟨gb124, 4, none⟩ = some (.string a0_4) := (bC BK124.out 4).trans rfl; have hcz7_5 : w5.cell? ⟨gb124, 5, none⟩ = some (.slice A0_5 l0_5.length c0_5) := (bC BK124.out 5).trans rfl; have hfz7_0 := bZ BK124.out 0; have hfz7_1 := bZ BK124.out 1; have hfz7_2 := bZ BK124.out 2; have hfz7_3 := bZ BK124.out 3; have hfz7_4 := bZ BK124.out 4; have hfz7_5 := bZ BK124.out 5) | ((with_reducible refine gate_builtin (b := .append) (xs := #[.tmp 8, .tmp 11]) rfl ?_); at_builtin; refine Kd.R_append (Kd.int .i64) (w0 := w) w.heap.size rfl (.tmp 8) (.tmp 11) 26 3 (.int .i64 0) 8 rfl Tryd.underlying26 info3 rfl (by decide) (by omega) v126 y125 a0_2 [.int .i64 a0_2] (fun _ => True) (fun _ => False) rfl rfl ?aP (fun _ hk => hk.elim) ?aF ?aO ?aB ?aS ?aL ?_; (case aP => exact rfl); (case aB => exact (by repeat (first | (with_reducible first | exact HB.out | apply bA | apply bN | apply bD | refine bS ?_ GE124.out) | exact HB.out))); (case aF => exact (fun _ _ => trivial)); (case aO => exact (by (with_reducible repeat (first | apply Kd.R_alloc | apply Kd.R_drewN | apply Kd.R_drew)); exact HO127.out)); (case aS => exact (below_size (by repeat (first | (with_reducible first | exact HB.out | apply bA | apply bN | apply bD | refine bS ?_ GE124.out) | exact HB.out)))); (case aL => have := LMc3.out; omega); intro v129 w8 ho hb hg hat; rw [← Ny128.out] at ho; have n0_ := Aside0.mk (blk_grown (g := gb124) (o := .cells #[.int .i64 a0_0, .int .i64 a0_1, .int .i64 a0_2, .int .i64 a0_3, .string a0_4, .slice A0_5 l0_5.length c0_5] 32 (0, 0)) (by (with_reducible repeat (first | refine kN ?_ _ | refine blk_drew ?_ | refine kA ?_ _)); exact BK124.out) hg (Kd.R_ne HO127.out BK124.out (by decide))); have n1_ := Aside0.mk (hb); have n2_ := Aside0.mk (ho); clear BK124; clear HB; clear HO127; have BK124 := n0_; have HB := n1_; have HO130 := n2_; clear n0_ n1_ n2_; clear ho hb hg hat))
   go_ret
   exact ⟨_, by first | rfl | (simp [errW_none, errW_some] <;> rfl) | (simp [*, errW_none, errW_some] <;> rfl), by (with_reducible repeat (first | apply Kd.R_alloc | apply Kd.R_drewN | apply Kd.R_drew)); exact HO130.out, by repeat (first | (with_reducible first | exact HB.out | apply bA | apply bN | apply bD | refine bS ?_ GE124.out) | exact HB.out)⟩
  ·rw [if_neg c3] at H
   exact absurd H (by simp)
 ·rw [if_neg c2] at H
  have c2b0 : (a0_0 == 12) = false := beq_eq_false_iff_ne.mpr c2
  have c2b1 : (a0_0 != 12) = true := bne_iff_ne.mpr c2
  by_cases c9 : a0_0 = 13
  ·rw [if_pos c9] at H
   have c9b0 : (a0_0 == 13) = true := beq_iff_eq.mpr c9
   have c9b1 : (a0_0 != 13) = false := bne_eq_false_iff_eq.mpr c9
   clear c9
   obtain ⟨y131, hy131⟩ : ∃ y_ : List Int, y_ = (([a0_3, a0_1] : List Int)) := ⟨_, rfl⟩
   replace H : (if y125.length + y131.length < 17592186044416 then (some (y125 ++ y131)) else (none)) = some r := by first | (rw [hy131]; with_reducible exact H) | (have H2_ := (Option.bind_some _ _).symm.trans H; rw [hy131]; with_reducible exact H2_) | (have H2_ := (Option.bind_some _ _).symm.trans H; with_reducible exact H2_) | with_reducible exact H | (rw [hy131]; exact H) | exact H
   have Ny131 := Aside0.mk hy131
   clear hy131
   by_cases c10 : y125.length + y131.length < 17592186044416
   ·rw [if_pos c10] at H
    have LMc10 := Aside0.mk c10
    clear c10
    obtain ⟨y134, hy134⟩ : ∃ y_ : List Int, y_ = (y125 ++ y131) := ⟨_, rfl⟩
    replace H : (some y134) = some r := by first | (rw [hy134]; with_reducible exact H) | (have H2_ := (Option.bind_some _ _).symm.trans H; rw [hy134]; with_reducible exact H2_) | (have H2_ := (Option.bind_some _ _).symm.trans H; with_reducible exact H2_) | with_reducible exact H | (rw [hy134]; exact H) | exact H
    have Ny134 := Aside0.mk hy134
    clear hy134
    obtain rfl := Option.some.inj H
    go_enter Tryd.func70, Tryd.ntmps70
    go_wp2_with (first | ((with_reducible refine gate_dst (N := 1) rfl ?_); refine box_event ?hg (N := 1) ?hd (cs := #[.int .i64 a0_0, .int .i64 a0_1, .int .i64 a0_2, .int .i64 a0_3, .string a0_4, .slice A0_5 l0_5.length c0_5]) (t := 32) ?hr ?_; (case hd => rfl); (case hg => rfl); (case hr => first | (go_simp; done) | (go_simp; rfl)); intro gb124 hg w11 hbox hb; have n0_ := Aside0.mk (below_step (by repeat (first | (with_reducible first | exact HB.out | apply bA | apply bN | apply bD) | exact HB.out)) hb); have n1_ := Aside0.mk (hbox); have n2_ := Aside0.mk ((by rw [hg]; exact (below_size (by repeat (first | (with_reducible first | exact HB.out | apply bA | apply bN | apply bD) | exact HB.out))) : w.heap.size ≤ gb124)); have n3_ := Aside0.mk ((by rw [hg]; exact (below_size (by repeat (first | (with_reducible first | exact HB.out | apply bA | apply bN | apply bD) | exact HB.out))) : w.heap.size ≤ gb124)); clear HB; have HB := n0_; have BK124 := n1_; have GW124 := n2_; have GE124 := n3_; clear n0_ n1_ n2_ n3_; clear hb hbox hg) | ((with_reducible refine gate_dst (N := 4) rfl ?_); refine Kd.R_lit (Kd.int .i64) _ 3 ?hg (N := 4) ?hd (xs := ([] : List Int)) (inner := []) (ok := fun _ => True) (okp := fun _ => True) ?hr ?hp (fun _ hk => hk) trivial (Below.refl _ _) (Nat.le_refl _) (by simp) ?_; (case hd => rfl); (case hg => rfl); (case hr => first | (go_simp; done) | (go_simp; rfl)); (case hp => exact (Reps.none _ _)); intro v126 w12 ho13 hb hg_ hnew_; clear hg_ hnew_; (first | rw [← Ny125.out] at ho13 | (simp only [Int.reduceToNat] at ho13; rw [← Ny125.out] at ho13)); have n0_ := Aside0.mk (Kd.R_lower ho13 (below_size (by repeat (first | (with_reducible first | exact HB.out | apply bA | apply bN | apply bD | refine bS ?_ GE124.out) | exact HB.out)))); have n1_ := Aside0.mk (blk_below (g := gb124) (o := .cells #[.int .i64 a0_0, .int .i64 a0_1, .int .i64 a0_2, .int .i64 a0_3, .string a0_4, .slice A0_5 l0_5.length c0_5] 32 (0, 0)) (by (with_reducible repeat (first | refine kN ?_ _ | refine blk_drew ?_ | refine kA ?_ _)); exact BK124.out) hb); have n2_ := Aside0.mk (below_step (by repeat (first | (with_reducible first | exact HB.out | apply bA | apply bN | apply bD | refine bS ?_ GE124.out) | exact HB.out)) hb); clear BK124; clear HB; have HO127 := n0_; have BK124 := n1_; have HB := n2_; clear n0_ n1_ n2_; clear hb ho13; have hcz14_0 : w12.cell? ⟨gb124, 0, none⟩ = some (.int .i64 a0_0) := (bC BK124.out 0).trans rfl; have hcz14_1 : w12.cell? ⟨gb124, 1, none⟩ = some (.int .i64 a0_1) := (bC BK124.out 1).trans rfl; have hcz14_2 : w12.cell? ⟨gb124, 2, none⟩ = some (.int .i64 a0_2) := (bC BK124.out 2).trans rfl; have hcz14_3 : w12.cell? ⟨gb124, 3, none⟩ = some (.int .i64 a0_3) := (bC BK124.out 3).trans rfl; have hcz14_4 : w12.cell? ⟨gb124, 4, none⟩ = some (.string a0_4) := (bC BK124.out 4).trans rfl; have hcz14_5 : w12.cell? ⟨gb124, 5, none⟩ = some (.slice A0_5 l0_5.length c0_5) := (bC BK124.out 5).trans rfl; have hfz14_0 := bZ BK124.out 0; have hfz14_1 := bZ BK124.out 1; have hfz14_2 := bZ BK124.out 2; have hfz14_3 := bZ BK124.out 3; have hfz14_4 := bZ BK124.out 4; have hfz14_5 := bZ BK124.out 5) | ((with_reducible refine gate_dst (N := 21) rfl ?_); refine Kd.R_lit (Kd.int .i64) _ 3 ?hg (N := 21) ?hd (xs := ([a0_3, a0_1] : List Int)) (inner := [.int .i64 a0_3, .int .i64 a0_1]) (ok := fun _ => True) (okp := fun _ => True) ?hr ?hp (fun _ hk => hk) trivial (Below.refl _ _) (Nat.le_refl _) (by simp) ?_; (case hd => rfl); (case hg => rfl); (case hr => first | (go_simp; done) | (go_simp; rfl)); (case hp => exact (Reps.one (show Kd.M (Kd.int .i64) _ _ _ a0_3 [.int .i64 a0_3] from rfl) (Reps.one (show Kd.M (Kd.int .i64) _ _ _ a0_1 [.int .i64 a0_1] from rfl) (Reps.none _ _)))); intro v132 w15 ho16 hb hg_ hnew_; clear hg_ hnew_; (first | rw [← Ny131.out] at ho16 | (simp only [Int.reduceToNat] at ho16; rw [← Ny131.out] at ho16)); have n0_ := Aside0.mk (Kd.R_elder' (by (with_reducible repeat (first | apply Kd.R_alloc | apply Kd.R_drewN | apply Kd.R_drew)); exact HO127.out) (Kd.R_base ho16) hb); have n1_ := Aside0.mk (Kd.R_lower (Kd.R_new' ho16 (Kd.R_lt (by (with_reducible repeat (first | apply Kd.R_alloc | apply Kd.R_drewN | apply Kd.R_drew)); exact HO127.out))) (below_size (by repeat (first | (with_reducible first | exact HB.out | apply bA | apply bN | apply bD | refine bS ?_ GE124.out) | exact HB.out)))); have n2_ := Aside0.mk (blk_below (g := gb124) (o := .cells #[.int .i64 a0_0, .int .i64 a0_1, .int .i64 a0_2, .int .i64 a0_3, .string a0_4, .slice A0_5 l0_5.length c0_5] 32 (0, 0)) (by (with_reducible repeat (first | refine kN ?_ _ | refine blk_drew ?_ | refine kA ?_ _)); exact BK124.out) hb); have n3_ := Aside0.mk (below_step (by repeat (first | (with_reducible first | exact HB.out | apply bA | apply bN | apply bD | refine bS ?_ GE124.out) | exact HB.out)) hb); clear HO127; clear BK124; clear HB; have HO127 := n0_; have HO133 := n1_; have BK124 := n2_; have HB := n3_; clear n0_ n1_ n2_ n3_; clear hb ho16; obtain ⟨Ao18, co18, eo18⟩ := Kd.R_slice HO133.out; subst eo18) | ((with_reducible refine gate_builtin (b := .append) (xs := #[.tmp 16, .tmp 21]) rfl ?_); at_builtin; refine Kd.R_append_rows (Kd.int .i64) (w0 := w) w.heap.size rfl (.tmp 16) (.tmp 21) 26 3 (.int .i64 0) 8 rfl Tryd.underlying26 info3 rfl (by decide) (by omega) v126 y125 y131 _ _ _ (fun k_ => some k_ ≠ (.slice Ao18 y131.length co18 : Value).ownBlock) (fun _ => False) rfl rfl ?aO ?aR (fun _ _ h => h) (fun _ h => h.elim) ?aF ?aB ?aS ?aL ?_; (case aR => repeat (first | exact (Kd.R_reads' HO133.out).2.2 | (with_reducible refine Kd.C_alloc ?_ _) | (with_reducible refine Kd.C_drewN ?_ _) | (with_reducible refine Kd.C_drew ?_))); (case aB => exact (by repeat (first | (with_reducible first | exact HB.out | apply bA | apply bN | apply bD | refine bS ?_ GE124.out) | exact HB.out))); (case aF => exact (fun k_ hk => Kd.fresh' (Kd.R_lt (by (with_reducible repeat (first | apply Kd.R_alloc | apply Kd.R_drewN | apply Kd.R_drew)); exact HO133.out)) k_ hk)); (case aO => exact (by (with_reducible repeat (first | apply Kd.R_alloc | apply Kd.R_drewN | apply Kd.R_drew)); exact Kd.R_mono HO127.out (fun _ hk => hk.2))); (case aS => exact (below_size (by repeat (first | (with_reducible first | exact HB.out | apply bA | apply bN | apply bD | refine bS ?_ GE124.out) | exact HB.out)))); (case aL => have := LMc10.out; omega); intro v135 w17 ho hb hg hat; rw [← Ny134.out] at ho; have n0_ := Aside0.mk (blk_grown (g := gb124) (o := .cells #[.int .i64 a0_0, .int .i64 a0_1, .int .i64 a0_2, .int .i64 a0_3, .string a0_4, .slice A0_5 l0_5.length c0_5] 32 (0, 0)) (by (with_reducible repeat (first | refine kN ?_ _ | refine blk_drew ?_ | refine kA ?_ _)); exact BK124.out) hg (Kd.R_ne HO127.out BK124.out (by decide))); have n1_ := Aside0.mk (Kd.R_after (ok := (fun _ => True)) (by (with_reducible repeat (first | apply Kd.R_alloc | apply Kd.R_drewN | apply Kd.R_drew)); exact HO133.out) hg hat); have n2_ := Aside0.mk (hb); have n3_ := Aside0.mk (ho); clear BK124; clear HO133; clear HB; clear HO127; have BK124 := n0_; have HO133 := n1_; have HB := n2_; have HO136 := n3_; clear n0_ n1_ n2_ n3_; clear ho hb hg hat))
    go_ret
    exact ⟨_, by first | rfl | (simp [errW_none, errW_some] <;> rfl) | (simp [*, errW_none, errW_some] <;> rfl), by (with_reducible repeat (first | apply Kd.R_alloc | apply Kd.R_drewN | apply Kd.R_drew)); exact Kd.R_mono HO136.out (fun _ hk => trivial), by repeat (first | (with_reducible first | exact HB.out | apply bA | apply bN | apply bD | refine bS ?_ GE124.out) | exact HB.out)⟩
   ·rw [if_neg c10] at H
    exact absurd H (by simp)
  ·rw [if_neg c9] at H
   have c9b0 : (a0_0 == 13) = false := beq_eq_false_iff_ne.mpr c9
   have c9b1 : (a0_0 != 13) = true := bne_iff_ne.mpr c9
   obtain rfl := Option.some.inj H
   go_enter Tryd.func70, Tryd.ntmps70
   go_wp2_with (first | ((with_reducible refine gate_dst (N := 1) rfl ?_); refine box_event ?hg (N := 1) ?hd (cs := #[.int .i64 a0_0, .int .i64 a0_1, .int .i64 a0_2, .int .i64 a0_3, .string a0_4, .slice A0_5 l0_5.length c0_5]) (t := 32) ?hr ?_; (case hd => rfl); (case hg => rfl); (case hr => first | (go_simp; done) | (go_simp; rfl)); intro gb124 hg w19 hbox hb; have n0_ := Aside0.mk (below_step (by repeat (first | (with_reducible first | exact HB.out | apply bA | apply bN | apply bD) | exact HB.out)) hb); have n1_ := Aside0.mk (hbox); have n2_ := Aside0.mk ((by rw [hg]; exact (below_size (by repeat (first | (with_reducible first | exact HB.out | apply bA | apply bN | apply bD) | exact HB.out))) : w.heap.size ≤ gb124)); have n3_ := Aside0.mk ((by rw [hg]; exact (below_size (by repeat (first | (with_reducible first | exact HB.out | apply bA | apply bN | apply bD) | exact HB.out))) : w.heap.size ≤ gb124)); clear HB; have HB := n0_; have BK124 := n1_; have GW124 := n2_; have GE124 := n3_; clear n0_ n1_ n2_ n3_; clear hb hbox hg) | ((with_reducible refine gate_dst (N := 4) rfl ?_); refine Kd.R_lit (Kd.int .i64) _ 3 ?hg (N := 4) ?hd (xs := ([] : List Int)) (inner := []) (ok := fun _ => True) (okp := fun _ => True) ?hr ?hp (fun _ hk => hk) trivial (Below.refl _ _) (Nat.le_refl _) (by simp) ?_; (case hd => rfl); (case hg => rfl); (case hr => first | (go_simp; done) | (go_simp; rfl)); (case hp => exact (Reps.none _ _)); intro v126 w20 ho21 hb hg_ hnew_; clear hg_ hnew_; (first | rw [← Ny125.out] at ho21 | (simp only [Int.reduceToNat] at ho21; rw [← Ny125.out] at ho21)); have n0_ := Aside0.mk (Kd.R_lower ho21 (below_size (by repeat (first | (with_reducible first | exact HB.out | apply bA | apply bN | apply bD | refine bS ?_ GE124.out) | exact HB.out)))); have n1_ := Aside0.mk (blk_below (g := gb124) (o := .cells #[.int .i64 a0_0, .int .i64 a0_1, .int .i64 a0_2, .int .i64 a0_3, .string a0_4, .slice A0_5 l0_5.length c0_5] 32 (0, 0)) (by (with_reducible repeat (first | refine kN ?_ _ | refine blk_drew ?_ | refine kA ?_ _)); exact BK124.out) hb); have n2_ := Aside0.mk (below_step (by repeat (first | (with_reducible first | exact HB.out | apply bA | apply bN | apply bD | refine bS ?_ GE124.out) | exact HB.out)) hb); clear BK124; clear HB; have HO127 := n0_; have BK124 := n1_; have HB := n2_; clear n0_ n1_ n2_; clear hb ho21; have hcz22_0 : w20.cell? ⟨gb124, 0, none⟩ = some (.int .i64 a0_0) := (bC BK124.out 0).trans rfl; have hcz22_1 : w20.cell? ⟨gb124, 1, none⟩ = some (.int .i64 a0_1) := (bC BK124.out 1).trans rfl; have hcz22_2 : w20.cell? ⟨gb124, 2, none⟩ = some (.int .i64 a0_2) := (bC BK124.out 2).trans rfl; have hcz22_3 : w20.cell? ⟨gb124, 3, none⟩ = some (.int .i64 a0_3) := (bC BK124.out 3).trans rfl; have hcz22_4 : w20.cell? ⟨gb124, 4, none⟩ = some (.string a0_4) := (bC BK124.out 4).trans rfl; have hcz22_5 : w20.cell? ⟨gb124, 5, none⟩ = some (.slice A0_5 l0_5.length c0_5) := (bC BK124.out 5).trans rfl; have hfz22_0 := bZ BK124.out 0; have hfz22_1 := bZ BK124.out 1; have hfz22_2 := bZ BK124.out 2; have hfz22_3 := bZ BK124.out 3; have hfz22_4 := bZ BK124.out 4; have hfz22_5 := bZ BK124.out 5))
   go_ret
   exact ⟨_, by first | rfl | (simp [errW_none, errW_some] <;> rfl) | (simp [*, errW_none, errW_some] <;> rfl), by (with_reducible repeat (first | apply Kd.R_alloc | apply Kd.R_drewN | apply Kd.R_drew)); exact HO127.out, by repeat (first | (with_reducible first | exact HB.out | apply bA | apply bN | apply bD | refine bS ?_ GE124.out) | exact HB.out)⟩
end Go.Proofs.YtoilapjkgligfaaDoor.P
