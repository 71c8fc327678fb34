import Derived.Test.YtoilapjkgligfaaDoorKP
import Derived.Test.YtoilapjkgligfaaDoorKa7
import Derived.Test.YtoilapjkgligfaaDoorKa8
namespace Go.Proofs.YtoilapjkgligfaaDoor.P
open Go.RowKit Go.Proofs.YtoilapjkgligfaaDoorW.PrintWords Go.Proofs.YtoilapjkgligfaaDoorW.PrintLast Go.Proofs.YtoilapjkgligfaaDoorW.PrintMore
attribute [local go_sem] max2_int min2_int max_two min_two max_three min_three max_four min_four 
set_option linter.unusedVariables false
set_option linter.unusedSimpArgs false
mutual
def cubbyref11_In.l0 : Nat → List (List Int) → Int → ByteArray → Int → Int → List (List (S32)) → Option ((List (List Int)))
 | 0, _, _, _, _, _, _ => none
 | k + 1, x3, x4, y0, y1, y2, y3 => if x4 ≤ (wrap64 ((wrap64 ((y3.length : Int) * y2)) + 1)) then (cubbyref11_In.l1 k x3 x4 (([] : List (List Int))) true 0 y0 y1 y2 y3) else (some x3)
def cubbyref11_In.l1 : Nat → List (List Int) → Int → List (List Int) → Bool → Int → ByteArray → Int → Int → List (List (S32)) → Option ((List (List Int)))
 | 0, _, _, _, _, _, _, _, _, _ => none
 | k + 1, x3, x4, x5, x6, x7, y0, y1, y2, y3 => if x7 < (y3.length : Int) then ((cubbyref11_ahead.f k y0 y1 y2 y3 x3 x7 0).bind fun t245 => (if x6 = true then (if 0 ≤ x7 then (if x7 < (x3.length : Int) then (if x5.length < 5864062014805 then (cubbyref11_In.l1 k x3 x4 (x5 ++ [t245]) ((t245.length : Int) == ((rd_Li64 x3 x7).length : Int)) (wrap64 (x7 + 1)) y0 y1 y2 y3) else (none)) else (none)) else (none)) else (if x5.length < 5864062014805 then (cubbyref11_In.l1 k x3 x4 (x5 ++ [t245]) false (wrap64 (x7 + 1)) y0 y1 y2 y3) else (none)))) else (if x6 = true then (some x5) else (cubbyref11_In.l0 k x5 (wrap64 (x4 + 1)) y0 y1 y2 y3))
end
def cubbyref11_In.f (k : Nat) (a0_0 : ByteArray) (a0_1 : Int) (a0_2 : Int) (l0_3 : List (List (S32))) : Option ((List (List Int))) := (cubbyref07_Check.f k a0_0 a0_1 a0_2 l0_3).bind fun t238 => (if t238 = 0 then (if 0 ≤ (l0_3.length : Int) then (if ((l0_3.length : Int) : Int).toNat ≤ 11728124029610 then (cubbyref11_In.l0 k (List.replicate ((l0_3.length : Int) : Int).toNat []) 0 a0_0 a0_1 a0_2 l0_3) else (none)) else (none)) else (some ([] : List (List Int))))
set_option maxHeartbeats 8000000 in
set_option maxRecDepth 100000 in
theorem cubbyref11_In.calls (k : Nat) (a0_0 : ByteArray) (a0_1 : Int) (a0_2 : Int) (A0_3 : Option Addr) (c0_3 : Nat) (l0_3 : List (List (S32))) (r : List (List Int)) (w : World) (hr0_3 : Kd.C (Kd.slice 32 k32) w A0_3 l0_3.length l0_3) (hc0_3 : l0_3.length ≤ c0_3) (h : cubbyref11_In.f k a0_0 a0_1 a0_2 l0_3 = some r) :
  Calls Tryd.prog 26 #[.agg #[.string a0_0, .int .i64 a0_1, .int .i64 a0_2, .slice A0_3 l0_3.length c0_3]] w fun e w' => ∃ v0_ : Value, e = .returned (v0_) ∧ Kd.S (Kd.slice 3 (Kd.int .i64)) 26 w' w.heap.size (fun _ => True) v0_ r ∧ Below w.heap.size w w' := by
 have hu24 := Tryd.underlying24
 have HR0_3 := Aside0.mk hr0_3
 have HC0_3 := Aside0.mk hc0_3
 clear hr0_3 hc0_3
 have HB := Aside0.mk (Below.refl w.heap.size w)
 have H : ((cubbyref07_Check.f k a0_0 a0_1 a0_2 l0_3).bind fun t238 => (if t238 = 0 then (if 0 ≤ (l0_3.length : Int) then (if ((l0_3.length : Int) : Int).toNat ≤ 11728124029610 then (cubbyref11_In.l0 k (List.replicate ((l0_3.length : Int) : Int).toNat []) 0 a0_0 a0_1 a0_2 l0_3) else (none)) else (none)) else (some ([] : List (List Int))))) = some r := h
 clear h
 replace H := Option.bind_eq_some_iff.mp H
 obtain ⟨t238, A20, H⟩ := H
 replace H : (if t238 = 0 then (if 0 ≤ (l0_3.length : Int) then (if ((l0_3.length : Int) : Int).toNat ≤ 11728124029610 then (cubbyref11_In.l0 k (List.replicate ((l0_3.length : Int) : Int).toNat []) 0 a0_0 a0_1 a0_2 l0_3) else (none)) else (none)) else (some ([] : List (List Int)))) = some r := H
 have A2 := Aside0.mk A20
 clear A20
 by_cases c3 : t238 = 0
 ·rw [if_pos c3] at H
  have c3b0 : (t238 == 0) = true := beq_iff_eq.mpr c3
  have c3b1 : (t238 != 0) = false := bne_eq_false_iff_eq.mpr c3
  clear c3
  by_cases c4 : 0 ≤ (l0_3.length : Int)
  ·rw [if_pos c4] at H
   have c4b0 := eq_true c4
   have c4b1 : decide (0 ≤ (l0_3.length : Int)) = true := decide_eq_true c4
   clear c4
   by_cases c5 : ((l0_3.length : Int) : Int).toNat ≤ 11728124029610
   ·rw [if_pos c5] at H
    have c5b0 := eq_true c5
    have c5b1 : decide (((l0_3.length : Int) : Int).toNat ≤ 11728124029610) = true := decide_eq_true c5
    clear c5
    obtain ⟨y239, hy239⟩ : ∃ y_ : List (List Int), y_ = (List.replicate ((l0_3.length : Int) : Int).toNat []) := ⟨_, rfl⟩
    replace H : (cubbyref11_In.l0 k y239 0 a0_0 a0_1 a0_2 l0_3) = some r := by first | (rw [hy239]; with_reducible exact H) | (have H2_ := (Option.bind_some _ _).symm.trans H; rw [hy239]; with_reducible exact H2_) | (have H2_ := (Option.bind_some _ _).symm.trans H; with_reducible exact H2_) | with_reducible exact H | (rw [hy239]; exact H) | exact H
    have Ny239 := Aside0.mk hy239
    clear hy239
    have H' := Aside0.mk H
    clear H
    go_enter Tryd.func26, Tryd.ntmps26
    go_wp2_with (first | ((with_reducible refine gate_dst (N := 1) rfl ?_); (try (refine gate_guard (by rfl) ?_; dsimp only)); refine box_event ?hg (N := 1) ?hd (cs := #[.string a0_0, .int .i64 a0_1, .int .i64 a0_2, .slice A0_3 l0_3.length c0_3]) (t := 24) ?hr ?_; (case hd => rfl); (case hg => rfl); (case hr => first | (go_simp; done) | (go_simp; rfl)); intro gb237 hg w6 hbox hb; have n0_ := Aside0.mk (below_step (by repeat (first | (with_reducible first | exact HB.out | apply bA | apply bN | apply bD) | exact HB.out)) hb); have n1_ := Aside0.mk (hbox); have n2_ := Aside0.mk ((by rw [hg]; exact (below_size (by repeat (first | (with_reducible first | exact HB.out | apply bA | apply bN | apply bD) | exact HB.out))) : w.heap.size ≤ gb237)); have n3_ := Aside0.mk ((by rw [hg]; exact (below_size (by repeat (first | (with_reducible first | exact HB.out | apply bA | apply bN | apply bD) | exact HB.out))) : w.heap.size ≤ gb237)); clear HB; have HB := n0_; have BK237 := n1_; have GW237 := n2_; have GE237 := n3_; clear n0_ n1_ n2_ n3_; clear hb hbox hg; have hcz7_0 : w6.cell? ⟨gb237, 0, none⟩ = some (.string a0_0) := (bC BK237.out 0).trans rfl; have hcz7_1 : w6.cell? ⟨gb237, 1, none⟩ = some (.int .i64 a0_1) := (bC BK237.out 1).trans rfl; have hcz7_2 : w6.cell? ⟨gb237, 2, none⟩ = some (.int .i64 a0_2) := (bC BK237.out 2).trans rfl; have hcz7_3 : w6.cell? ⟨gb237, 3, none⟩ = some (.slice A0_3 l0_3.length c0_3) := (bC BK237.out 3).trans rfl; have hfz7_0 := bZ BK237.out 0; have hfz7_1 := bZ BK237.out 1; have hfz7_2 := bZ BK237.out 2; have hfz7_3 := bZ BK237.out 3) | ((with_reducible refine gate_callee (f := 11) rfl ?_); refine goesL_ (some 10) rfl rfl Tryd.func11 (by kernel_rfl) rfl #[.agg #[.string a0_0, .int .i64 a0_1, .int .i64 a0_2, .slice A0_3 l0_3.length c0_3]] rfl (by (try simp only [List.map_toArray, List.map_cons, List.map_nil]); first | done | rfl | (simp only [List.length_drop, List.length_take]; rfl)) ?_; (with_reducible refine (cubbyref07_Check.calls k a0_0 a0_1 a0_2 _ _ l0_3 t238 _ ?side1 ?side2 A2.out).mono ?_); (case side1 => repeat (first | exact (Kd.C_below HR0_3.out HB.out) | (with_reducible refine Kd.C_alloc ?_ _) | (with_reducible refine Kd.C_drewN ?_ _) | (with_reducible refine Kd.C_drew ?_))); (case side2 => exact HC0_3.out); rintro e w8 ⟨rfl, hb⟩; refine ⟨_, rfl, ?_⟩; have n0_ := Aside0.mk (blk_below (g := gb237) (o := .cells #[.string a0_0, .int .i64 a0_1, .int .i64 a0_2, .slice A0_3 l0_3.length c0_3] 24 (0, 0)) (by (with_reducible repeat (first | refine kN ?_ _ | refine blk_drew ?_ | refine kA ?_ _)); exact BK237.out) hb); have n1_ := Aside0.mk (below_step (by repeat (first | (with_reducible first | exact HB.out | apply bA | apply bN | apply bD | refine bS ?_ GE237.out) | exact HB.out)) hb); clear BK237; clear HB; have BK237 := n0_; have HB := n1_; clear n0_ n1_; (try clear hb); (try clear hb2); (try clear hk); (try clear hi); have hcz9_0 : w8.cell? ⟨gb237, 0, none⟩ = some (.string a0_0) := (bC BK237.out 0).trans rfl; have hcz9_1 : w8.cell? ⟨gb237, 1, none⟩ = some (.int .i64 a0_1) := (bC BK237.out 1).trans rfl; have hcz9_2 : w8.cell? ⟨gb237, 2, none⟩ = some (.int .i64 a0_2) := (bC BK237.out 2).trans rfl; have hcz9_3 : w8.cell? ⟨gb237, 3, none⟩ = some (.slice A0_3 l0_3.length c0_3) := (bC BK237.out 3).trans rfl; have hfz9_0 := bZ BK237.out 0; have hfz9_1 := bZ BK237.out 1; have hfz9_2 := bZ BK237.out 2; have hfz9_3 := bZ BK237.out 3) | ((with_reducible refine gate_dst (N := 15) rfl ?_); (try (refine gate_guard (by rfl) ?_; dsimp only)); refine Kd.S_make (Kd.slice 3 (Kd.int .i64)) _ 26 rfl (N := 15) rfl 60 _ _ rfl (l0_3.length : Int) rfl rfl Tryd.underlying60 (.slice none 0 0) 24 info26 rfl (by decide) (by omega) [] (ok := fun _ => True) (okp := fun _ => True) ⟨_, rfl, Kd.R_nil _ _ _ _ _⟩ (fun _ hk => hk) trivial (oD (by first | (with_reducible assumption) | assumption)) (Nat.le_trans (Nat.mul_le_mul_right _ (oD (by first | (with_reducible assumption) | assumption) : (l0_3.length : Int).toNat ≤ 11728124029610)) (by omega)) (Below.refl _ _) (Nat.le_refl _) ?_; intro v240 w10 ho11 hb hg_ hnew_; clear hg_ hnew_; (first | rw [← Ny239.out] at ho11 | (simp only [Int.reduceToNat] at ho11; rw [← Ny239.out] at ho11)); have n0_ := Aside0.mk (Kd.S_lower ho11 (below_size (by repeat (first | (with_reducible first | exact HB.out | apply bA | apply bN | apply bD | refine bS ?_ GE237.out) | exact HB.out)))); have n1_ := Aside0.mk (blk_below (g := gb237) (o := .cells #[.string a0_0, .int .i64 a0_1, .int .i64 a0_2, .slice A0_3 l0_3.length c0_3] 24 (0, 0)) (by (with_reducible repeat (first | refine kN ?_ _ | refine blk_drew ?_ | refine kA ?_ _)); exact BK237.out) hb); have n2_ := Aside0.mk (below_step (by repeat (first | (with_reducible first | exact HB.out | apply bA | apply bN | apply bD | refine bS ?_ GE237.out) | exact HB.out)) hb); clear BK237; clear HB; have HO241 := n0_; have BK237 := n1_; have HB := n2_; clear n0_ n1_ n2_; clear hb ho11))
    go_loopg [3, 4] k (fun kq v3 v4 w' => ∃ (x3_1 : List (List Int)) (x4_1 : Int), v4 = .int .i64 x4_1 ∧ Aside0 (cubbyref11_In.l0 kq x3_1 x4_1 a0_0 a0_1 a0_2 l0_3 = some r) ∧ Aside0 (kq ≤ k) ∧ Aside0 (Kd.S (Kd.slice 3 (Kd.int .i64)) 26 w' w.heap.size (fun _ => True) v3 x3_1) ∧ Aside0 (w'.heap[gb237]? = some (.cells #[.string a0_0, .int .i64 a0_1, .int .i64 a0_2, (.slice A0_3 l0_3.length c0_3)] 24 (0, 0))) ∧ Aside0 (Below w.heap.size w w'))
    case atStart => exact ⟨(y239), (0), (by first | rfl | (simp; done) | (simp [*]; done)), H', ⟨Nat.le_refl _⟩, ⟨by (with_reducible repeat (first | apply Kd.S_alloc | apply Kd.S_drewN | apply Kd.S_drew)); exact HO241.out⟩, ⟨by (with_reducible repeat (first | refine kN ?_ _ | refine blk_drew ?_ | refine kA ?_ _)); exact BK237.out⟩, ⟨by repeat (first | (with_reducible first | exact HB.out | apply bA | apply bN | apply bD | refine bS ?_ GE237.out) | exact HB.out)⟩⟩
    case round =>
     clear H'
     try clear c1
     try clear c2
     try clear p2
     try clear c3
     try clear c3b0
     try clear c3b1
     try clear c4
     try clear c4b0
     try clear c4b1
     try clear c5
     try clear c5b0
     try clear c5b1
     try clear c11
     try clear hcz7_0
     try clear hcz7_1
     try clear hcz7_2
     try clear hcz7_3
     try clear hcz9_0
     try clear hcz9_1
     try clear hcz9_2
     try clear hcz9_3
     try clear hfz7_0
     try clear hfz7_1
     try clear hfz7_2
     try clear hfz7_3
     try clear hfz9_0
     try clear hfz9_1
     try clear hfz9_2
     try clear hfz9_3
     obtain ⟨x3_1, x4_1, rfl, HA, HK1, HO_3, BK237, HB⟩ := hrel
     cases gk with
     | zero => exact absurd HA.out (by simp [cubbyref11_In.l0])
     | succ k1 =>
      have H := HA.out
      clear HA
      simp only [cubbyref11_In.l0] at H
      by_cases c12 : x4_1 ≤ (wrap64 ((wrap64 ((l0_3.length : Int) * a0_2)) + 1))
      ·rw [if_pos c12] at H
       have c12b0 : decide (x4_1 ≤ (wrap64 ((wrap64 ((l0_3.length : Int) * a0_2)) + 1))) = true := decide_eq_true c12
       clear c12
       obtain ⟨y242, hy242⟩ : ∃ y_ : List (List Int), y_ = (([] : List (List Int))) := ⟨_, rfl⟩
       replace H : (cubbyref11_In.l1 k1 x3_1 x4_1 y242 true 0 a0_0 a0_1 a0_2 l0_3) = some r := by first | (rw [hy242]; with_reducible exact H) | (have H2_ := (Option.bind_some _ _).symm.trans H; rw [hy242]; with_reducible exact H2_) | (have H2_ := (Option.bind_some _ _).symm.trans H; with_reducible exact H2_) | with_reducible exact H | (rw [hy242]; exact H) | exact H
       have Ny242 := Aside0.mk hy242
       clear hy242
       have H' := Aside0.mk H
       clear H
       have hcz13_0 : wr.cell? ⟨gb237, 0, none⟩ = some (.string a0_0) := (bC BK237.out 0).trans rfl
       have hcz13_1 : wr.cell? ⟨gb237, 1, none⟩ = some (.int .i64 a0_1) := (bC BK237.out 1).trans rfl
       have hcz13_2 : wr.cell? ⟨gb237, 2, none⟩ = some (.int .i64 a0_2) := (bC BK237.out 2).trans rfl
       have hcz13_3 : wr.cell? ⟨gb237, 3, none⟩ = some (.slice A0_3 l0_3.length c0_3) := (bC BK237.out 3).trans rfl
       have hfz13_0 := bZ BK237.out 0
       have hfz13_1 := bZ BK237.out 1
       have hfz13_2 := bZ BK237.out 2
       have hfz13_3 := bZ BK237.out 3
       go_wp2_with (first | ((with_reducible refine gate_dst (N := 27) rfl ?_); (try (refine gate_guard (by rfl) ?_; dsimp only)); refine Kd.S_lit (Kd.slice 3 (Kd.int .i64)) _ 26 ?hg (N := 27) ?hd (xs := ([] : List (List Int))) (inner := []) (ok := fun _ => True) (okp := fun _ => True) ?hr ?hp (fun _ hk => hk) trivial (Below.refl _ _) (Nat.le_refl _) (by simp) ?_; (case hd => rfl); (case hg => rfl); (case hr => first | (go_simp; done) | (go_simp; rfl)); (case hp => exact (Reps.none _ _)); intro v243 w14 ho15 hb hg_ hnew_; clear hg_ hnew_; (first | rw [← Ny242.out] at ho15 | (simp only [Int.reduceToNat] at ho15; rw [← Ny242.out] at ho15)); have n0_ := Aside0.mk (Kd.S_elder' (by (with_reducible repeat (first | apply Kd.S_alloc | apply Kd.S_drewN | apply Kd.S_drew)); exact HO_3.out) (Kd.S_base ho15) hb); have n1_ := Aside0.mk (Kd.S_lower (Kd.S_new' ho15 (Kd.S_lt (by (with_reducible repeat (first | apply Kd.S_alloc | apply Kd.S_drewN | apply Kd.S_drew)); exact HO_3.out))) (below_size (by repeat (first | (with_reducible first | exact HB.out | apply bA | apply bN | apply bD | refine bS ?_ GE237.out) | exact HB.out)))); have n2_ := Aside0.mk (blk_below (g := gb237) (o := .cells #[.string a0_0, .int .i64 a0_1, .int .i64 a0_2, .slice A0_3 l0_3.length c0_3] 24 (0, 0)) (by (with_reducible repeat (first | refine kN ?_ _ | refine blk_drew ?_ | refine kA ?_ _)); exact BK237.out) hb); have n3_ := Aside0.mk (below_step (by repeat (first | (with_reducible first | exact HB.out | apply bA | apply bN | apply bD | refine bS ?_ GE237.out) | exact HB.out)) hb); clear HO_3; clear BK237; clear HB; have HO_3 := n0_; have HO244 := n1_; have BK237 := n2_; have HB := n3_; clear n0_ n1_ n2_ n3_; clear hb ho15))
       go_loopg [5, 6, 7] k1 (fun kq v5 v6 v7 w' => ∃ (x5_2 : List (List Int)) (x6_2 : Bool) (x7_2 : Int), v6 = .bool x6_2 ∧ v7 = .int .i64 x7_2 ∧ Aside0 (cubbyref11_In.l1 kq x3_1 x4_1 x5_2 x6_2 x7_2 a0_0 a0_1 a0_2 l0_3 = some r) ∧ Aside0 (kq ≤ k1) ∧ Aside0 (Kd.S (Kd.slice 3 (Kd.int .i64)) 26 w' w.heap.size (fun k_ => some k_ ≠ (v5 : Value).ownBlock) u3 x3_1) ∧ Aside0 (Kd.S (Kd.slice 3 (Kd.int .i64)) 26 w' w.heap.size (fun k_ => some k_ ≠ (u3 : Value).ownBlock) v5 x5_2) ∧ Aside0 (w'.heap[gb237]? = some (.cells #[.string a0_0, .int .i64 a0_1, .int .i64 a0_2, (.slice A0_3 l0_3.length c0_3)] 24 (0, 0))) ∧ Aside0 (Below w.heap.size w w'))
       case atStart => exact ⟨(y242), (true), (0), (by first | rfl | (simp; done) | (simp [*]; done)), (by first | rfl | (simp; done) | (simp [*]; done)), H', ⟨Nat.le_refl _⟩, ⟨by (with_reducible repeat (first | apply Kd.S_alloc | apply Kd.S_drewN | apply Kd.S_drew)); exact Kd.S_mono HO_3.out (fun _ hk => hk.2)⟩, ⟨by (with_reducible repeat (first | apply Kd.S_alloc | apply Kd.S_drewN | apply Kd.S_drew)); exact Kd.S_mono HO244.out (fun _ hk => hk.2)⟩, ⟨by (with_reducible repeat (first | refine kN ?_ _ | refine blk_drew ?_ | refine kA ?_ _)); exact BK237.out⟩, ⟨by repeat (first | (with_reducible first | exact HB.out | apply bA | apply bN | apply bD | refine bS ?_ GE237.out) | exact HB.out)⟩⟩
       case round =>
        clear H'
        try clear c1
        try clear c2
        try clear p2
        try clear c3
        try clear c3b0
        try clear c3b1
        try clear c4
        try clear c4b0
        try clear c4b1
        try clear c5
        try clear c5b0
        try clear c5b1
        try clear p6
        try clear c11
        try clear c12
        try clear c12b0
        try clear hcz13_0
        try clear hcz13_1
        try clear hcz13_2
        try clear hcz13_3
        try clear hcz7_0
        try clear hcz7_1
        try clear hcz7_2
        try clear hcz7_3
        try clear hcz9_0
        try clear hcz9_1
        try clear hcz9_2
        try clear hcz9_3
        try clear hfz13_0
        try clear hfz13_1
        try clear hfz13_2
        try clear hfz13_3
        try clear hfz7_0
        try clear hfz7_1
        try clear hfz7_2
        try clear hfz7_3
        try clear hfz9_0
        try clear hfz9_1
        try clear hfz9_2
        try clear hfz9_3
        try clear p2
        obtain ⟨x5_2, x6_2, x7_2, rfl, rfl, HA, HK2, HO_3, HO_5, BK237, HB⟩ := hrel
        cases gk with
        | zero => exact absurd HA.out (by simp [cubbyref11_In.l1])
        | succ k2 =>
         have H := HA.out
         clear HA
         simp only [cubbyref11_In.l1] at H
         by_cases c16 : x7_2 < (l0_3.length : Int)
         ·rw [if_pos c16] at H
          have c16b0 : decide (x7_2 < (l0_3.length : Int)) = true := decide_eq_true c16
          clear c16
          replace H := Option.bind_eq_some_iff.mp H
          obtain ⟨t245, A170, H⟩ := H
          replace H : (if x6_2 = true then (if 0 ≤ x7_2 then (if x7_2 < (x3_1.length : Int) then (if x5_2.length < 5864062014805 then (cubbyref11_In.l1 k2 x3_1 x4_1 (x5_2 ++ [t245]) ((t245.length : Int) == ((rd_Li64 x3_1 x7_2).length : Int)) (wrap64 (x7_2 + 1)) a0_0 a0_1 a0_2 l0_3) else (none)) else (none)) else (none)) else (if x5_2.length < 5864062014805 then (cubbyref11_In.l1 k2 x3_1 x4_1 (x5_2 ++ [t245]) false (wrap64 (x7_2 + 1)) a0_0 a0_1 a0_2 l0_3) else (none))) = some r := H
          have A17 := Aside0.mk A170
          clear A170
          by_cases c18 : x6_2 = true
          ·subst c18
           have H1 : (if 0 ≤ x7_2 then (if x7_2 < (x3_1.length : Int) then (if x5_2.length < 5864062014805 then (cubbyref11_In.l1 k2 x3_1 x4_1 (x5_2 ++ [t245]) ((t245.length : Int) == ((rd_Li64 x3_1 x7_2).length : Int)) (wrap64 (x7_2 + 1)) a0_0 a0_1 a0_2 l0_3) else (none)) else (none)) else (none)) = some r := by rw [if_pos rfl] at H; exact H
           clear H
           have H := H1
           clear H1
           by_cases c19 : 0 ≤ x7_2
           ·rw [if_pos c19] at H
            have c19b0 : decide (0 ≤ x7_2) = true := decide_eq_true c19
            clear c19
            by_cases c20 : x7_2 < (x3_1.length : Int)
            ·rw [if_pos c20] at H
             have c20b0 : decide (x7_2 < (x3_1.length : Int)) = true := decide_eq_true c20
             clear c20
             by_cases c21 : x5_2.length < 5864062014805
             ·rw [if_pos c21] at H
              have LMc21 := Aside0.mk c21
              clear c21
              obtain ⟨y249, hy249⟩ : ∃ y_ : List (List Int), y_ = (x5_2 ++ [t245]) := ⟨_, rfl⟩
              replace H : (cubbyref11_In.l1 k2 x3_1 x4_1 y249 ((t245.length : Int) == ((rd_Li64 x3_1 x7_2).length : Int)) (wrap64 (x7_2 + 1)) a0_0 a0_1 a0_2 l0_3) = some r := by first | (rw [hy249]; with_reducible exact H) | (have H2_ := (Option.bind_some _ _).symm.trans H; rw [hy249]; with_reducible exact H2_) | (have H2_ := (Option.bind_some _ _).symm.trans H; with_reducible exact H2_) | with_reducible exact H | (rw [hy249]; exact H) | exact H
              have Ny249 := Aside0.mk hy249
              clear hy249
              have H' := Aside0.mk H
              clear H
              have hcz22_0 : wr.cell? ⟨gb237, 0, none⟩ = some (.string a0_0) := (bC BK237.out 0).trans rfl
              have hcz22_1 : wr.cell? ⟨gb237, 1, none⟩ = some (.int .i64 a0_1) := (bC BK237.out 1).trans rfl
              have hcz22_2 : wr.cell? ⟨gb237, 2, none⟩ = some (.int .i64 a0_2) := (bC BK237.out 2).trans rfl
              have hcz22_3 : wr.cell? ⟨gb237, 3, none⟩ = some (.slice A0_3 l0_3.length c0_3) := (bC BK237.out 3).trans rfl
              have hfz22_0 := bZ BK237.out 0
              have hfz22_1 := bZ BK237.out 1
              have hfz22_2 := bZ BK237.out 2
              have hfz22_3 := bZ BK237.out 3
              obtain ⟨Ao23, co23, eo23⟩ := Kd.S_slice HO_3.out
              subst eo23
              go_wp2_with (first | ((with_reducible refine gate_callee (f := 62) rfl ?_); refine goesL_ (some 38) rfl rfl Tryd.func62 (by kernel_rfl) rfl #[.agg #[.string a0_0, .int .i64 a0_1, .int .i64 a0_2, .slice A0_3 l0_3.length c0_3], .slice Ao23 x3_1.length co23, .int .i64 x7_2, .int .i64 0] rfl (by (try simp only [List.map_toArray, List.map_cons, List.map_nil]); first | done | rfl | (simp only [List.length_drop, List.length_take]; rfl)) ?_; (with_reducible refine (cubbyref11_ahead.calls k2 a0_0 a0_1 a0_2 _ _ l0_3 _ _ x3_1 x7_2 0 t245 _ ?side1 ?side2 ?side3 ?side4 A17.out).mono ?_); (case side1 => repeat (first | exact (Kd.C_below HR0_3.out HB.out) | (with_reducible refine Kd.C_alloc ?_ _) | (with_reducible refine Kd.C_drewN ?_ _) | (with_reducible refine Kd.C_drew ?_))); (case side2 => exact HC0_3.out); (case side3 => repeat (first | exact (Kd.S_reads' HO_3.out).2.2 | (with_reducible refine Kd.C_alloc ?_ _) | (with_reducible refine Kd.C_drewN ?_ _) | (with_reducible refine Kd.C_drew ?_))); (case side4 => exact (Kd.S_reads' HO_3.out).2.1); rintro e w24 ⟨v246, rfl, ho0, hb⟩; refine ⟨_, rfl, ?_⟩; have n0_ := Aside0.mk (Kd.S_elder' (by (with_reducible repeat (first | apply Kd.S_alloc | apply Kd.S_drewN | apply Kd.S_drew)); exact HO_3.out) (Kd.R_base ho0) hb); have n1_ := Aside0.mk (Kd.S_elder' (by (with_reducible repeat (first | apply Kd.S_alloc | apply Kd.S_drewN | apply Kd.S_drew)); exact HO_5.out) (Kd.R_base ho0) hb); have n2_ := Aside0.mk (Kd.R_lower ho0 (below_size (by repeat (first | (with_reducible first | exact HB.out | apply bA | apply bN | apply bD | refine bS ?_ GE237.out) | exact HB.out)))); have n3_ := Aside0.mk (blk_below (g := gb237) (o := .cells #[.string a0_0, .int .i64 a0_1, .int .i64 a0_2, .slice A0_3 l0_3.length c0_3] 24 (0, 0)) (by (with_reducible repeat (first | refine kN ?_ _ | refine blk_drew ?_ | refine kA ?_ _)); exact BK237.out) hb); have n4_ := Aside0.mk (below_step (by repeat (first | (with_reducible first | exact HB.out | apply bA | apply bN | apply bD | refine bS ?_ GE237.out) | exact HB.out)) hb); clear HO_3; clear HO_5; clear BK237; clear HB; have HO_3 := n0_; have HO_5 := n1_; have HO247 := n2_; have BK237 := n3_; have HB := n4_; clear n0_ n1_ n2_ n3_ n4_; (try clear hb); (try clear hb2); (try clear hk); (try clear hi); (try clear ho0); obtain ⟨Ao25, co25, eo25⟩ := Kd.R_slice HO247.out; subst eo25; have p248 : 0 ≤ (x7_2 : Int) := oD (by first | (with_reducible assumption) | assumption); have q248 : x7_2 < (x3_1.length : Int) := oD (by first | (with_reducible assumption) | assumption); obtain ⟨ad248, A248_0, c248_0, e248, hx248_0, hl248_0, hi248_0⟩ := at_Li64 (Kd.S_reads' HO_3.out).2.2 x7_2 p248 q248; cases e248; obtain ⟨ce248, hce248, hMe248, hcc248⟩ := Kd.S_get HO_3.out [] x7_2 p248 (by first | exact q248 | exact oD (by first | (with_reducible assumption) | assumption) | (have e_ := (Kd.S_reads' HO_3.out).1; omega)); obtain ⟨ve248_0, rfl, ge248_0⟩ := hMe248; have hv248_0 := hcc248 0 _ rfl; rw [Nat.add_zero, show ((Kd.slice 3 (Kd.int .i64))).sz = 1 from rfl, Nat.mul_one] at hv248_0; replace hv248_0 := Option.some.inj (hv248_0.symm.trans hx248_0); rw [hv248_0] at ge248_0; have HL248_0 := Aside0.mk (show Kd.R (Kd.int .i64) 3 _ _ _ _ (rd_Li64 x3_1 x7_2) from ge248_0); clear hv248_0 ge248_0; clear hcc248 hce248; have HR248_0 := Aside0.mk hi248_0; have HC248_0 := Aside0.mk hl248_0; clear hi248_0 hl248_0; replace p248 := eq_true p248; replace q248 := eq_true q248) | ((with_reducible refine gate_builtin (b := .append) (xs := #[.tmp 50, .tmp 52]) rfl ?_); (try (refine gate_guard (by rfl) ?_; dsimp only)); at_builtin; refine Kd.S_append (Kd.slice 3 (Kd.int .i64)) (w0 := w) w.heap.size rfl (.tmp 50) (.tmp 52) 60 26 (.slice none 0 0) 24 rfl Tryd.underlying60 info26 rfl (by decide) (by omega) u5 x5_2 t245 [.slice Ao25 t245.length co25] (fun k_ => some k_ ≠ (.slice (some ad248) x3_1.length co23 : Value).ownBlock) (fun k_ => some k_ = (.slice Ao25 t245.length co25 : Value).ownBlock) rfl rfl ?aP (fun k_ hk_ => ((Kd.R_mono (ok' := fun k_ => ((fun k_ => some k_ ≠ (.slice (some ad248) x3_1.length co23 : Value).ownBlock)) k_ ∧ some k_ ≠ (u5 : Value).ownBlock) (Kd.R_apart' (Kd.R_apart' (HO247.out) (Kd.S_typed HO_3.out) (by decide)) (Kd.S_typed HO_5.out) (by decide)) (fun k_ hk => ⟨hk.1.2, hk.2⟩))).1 k_ hk_.symm) ?aF ?aO ?aB ?aS ?aL ?_; (case aP => exact Kd.M_row (Kd.R_mono (Kd.R_tight rfl (Kd.R_mono (ok' := fun k_ => ((fun k_ => some k_ ≠ (.slice (some ad248) x3_1.length co23 : Value).ownBlock)) k_ ∧ some k_ ≠ (u5 : Value).ownBlock) (Kd.R_apart' (Kd.R_apart' (HO247.out) (Kd.S_typed HO_3.out) (by decide)) (Kd.S_typed HO_5.out) (by decide)) (fun k_ hk => ⟨hk.1.2, hk.2⟩))) (fun _ h_ => h_))); (case aB => exact (by repeat (first | (with_reducible first | exact HB.out | apply bA | apply bN | apply bD | refine bS ?_ GE237.out) | exact HB.out))); (case aF => exact (fun k_ hk => Kd.fresh' (Kd.S_lt (by (with_reducible repeat (first | apply Kd.S_alloc | apply Kd.S_drewN | apply Kd.S_drew)); exact HO_3.out)) k_ hk)); (case aO => exact (by (with_reducible repeat (first | apply Kd.S_alloc | apply Kd.S_drewN | apply Kd.S_drew)); exact Kd.S_mono HO_5.out (fun k_ hk => ⟨hk.1, fun e_ => hk.2 e_⟩))); (case aS => exact (below_size (by repeat (first | (with_reducible first | exact HB.out | apply bA | apply bN | apply bD | refine bS ?_ GE237.out) | exact HB.out)))); (case aL => have := LMc21.out; omega); intro v250 w26 ho hb hg hat; rw [← Ny249.out] at ho; have n0_ := Aside0.mk (Kd.S_after (ok := (fun k_ => some k_ ≠ (.slice Ao25 t245.length co25 : Value).ownBlock)) (by (with_reducible repeat (first | apply Kd.S_alloc | apply Kd.S_drewN | apply Kd.S_drew)); exact Kd.S_mono HO_3.out (fun _ hk => ⟨hk.2, hk.1⟩)) hg hat); have n1_ := Aside0.mk (blk_grown (g := gb237) (o := .cells #[.string a0_0, .int .i64 a0_1, .int .i64 a0_2, .slice A0_3 l0_3.length c0_3] 24 (0, 0)) (by (with_reducible repeat (first | refine kN ?_ _ | refine blk_drew ?_ | refine kA ?_ _)); exact BK237.out) hg (Kd.S_ne HO_5.out BK237.out (by decide))); have n2_ := Aside0.mk (Kd.R_after (ok := (fun k_ => some k_ ≠ (.slice (some ad248) x3_1.length co23 : Value).ownBlock ∧ some k_ ≠ (.slice Ao25 t245.length co25 : Value).ownBlock)) (by (with_reducible repeat (first | apply Kd.R_alloc | apply Kd.R_drewN | apply Kd.R_drew)); exact Kd.R_mono HL248_0.out (fun _ hk => ⟨⟨hk.2, hk.1.2⟩, hk.1.1⟩)) hg hat); have n3_ := Aside0.mk (hb); have n4_ := Aside0.mk (ho); clear HO_3; clear BK237; clear HL248_0; clear HB; clear HO_5; clear HO247; have HO_3 := n0_; have BK237 := n1_; have HL248_0 := n2_; have HB := n3_; have HO251 := n4_; clear n0_ n1_ n2_ n3_ n4_; clear ho hb hg hat))
              go_roundg k2
              case measure => have := HK1.out; have := HK2.out; omega
              case rel => exact ⟨(y249), (((t245.length : Int) == ((rd_Li64 x3_1 x7_2).length : Int))), (wrap64 (x7_2 + 1)), (by first | rfl | (simp; done) | (simp [*]; done)), (by first | rfl | (simp; done) | (simp [*]; done)), H', ⟨by have := HK1.out; have := HK2.out; omega⟩, ⟨by (with_reducible repeat (first | apply Kd.S_alloc | apply Kd.S_drewN | apply Kd.S_drew)); exact Kd.S_mono HO_3.out (fun _ hk => hk.2)⟩, ⟨by (with_reducible repeat (first | apply Kd.S_alloc | apply Kd.S_drewN | apply Kd.S_drew)); exact HO251.out⟩, ⟨by (with_reducible repeat (first | refine kN ?_ _ | refine blk_drew ?_ | refine kA ?_ _)); exact BK237.out⟩, ⟨by repeat (first | (with_reducible first | exact HB.out | apply bA | apply bN | apply bD | refine bS ?_ GE237.out) | exact HB.out)⟩⟩
             ·rw [if_neg c21] at H
              exact absurd H (by simp)
            ·rw [if_neg c20] at H
             exact absurd H (by simp)
           ·rw [if_neg c19] at H
            exact absurd H (by simp)
          ·replace c18 := Bool.eq_false_iff.mpr c18
           subst c18
           have H1 : (if x5_2.length < 5864062014805 then (cubbyref11_In.l1 k2 x3_1 x4_1 (x5_2 ++ [t245]) false (wrap64 (x7_2 + 1)) a0_0 a0_1 a0_2 l0_3) else (none)) = some r := by rw [if_neg (show ¬ (false = true) by decide)] at H; exact H
           clear H
           have H := H1
           clear H1
           by_cases c27 : x5_2.length < 5864062014805
           ·rw [if_pos c27] at H
            have LMc27 := Aside0.mk c27
            clear c27
            obtain ⟨y252, hy252⟩ : ∃ y_ : List (List Int), y_ = (x5_2 ++ [t245]) := ⟨_, rfl⟩
            replace H : (cubbyref11_In.l1 k2 x3_1 x4_1 y252 false (wrap64 (x7_2 + 1)) a0_0 a0_1 a0_2 l0_3) = some r := by first | (rw [hy252]; with_reducible exact H) | (have H2_ := (Option.bind_some _ _).symm.trans H; rw [hy252]; with_reducible exact H2_) | (have H2_ := (Option.bind_some _ _).symm.trans H; with_reducible exact H2_) | with_reducible exact H | (rw [hy252]; exact H) | exact H
            have Ny252 := Aside0.mk hy252
            clear hy252
            have H' := Aside0.mk H
            clear H
            have hcz28_0 : wr.cell? ⟨gb237, 0, none⟩ = some (.string a0_0) := (bC BK237.out 0).trans rfl
            have hcz28_1 : wr.cell? ⟨gb237, 1, none⟩ = some (.int .i64 a0_1) := (bC BK237.out 1).trans rfl
            have hcz28_2 : wr.cell? ⟨gb237, 2, none⟩ = some (.int .i64 a0_2) := (bC BK237.out 2).trans rfl
            have hcz28_3 : wr.cell? ⟨gb237, 3, none⟩ = some (.slice A0_3 l0_3.length c0_3) := (bC BK237.out 3).trans rfl
            have hfz28_0 := bZ BK237.out 0
            have hfz28_1 := bZ BK237.out 1
            have hfz28_2 := bZ BK237.out 2
            have hfz28_3 := bZ BK237.out 3
            obtain ⟨Ao29, co29, eo29⟩ := Kd.S_slice HO_3.out
            subst eo29
            go_wp2_with (first | ((with_reducible refine gate_callee (f := 62) rfl ?_); refine goesL_ (some 38) rfl rfl Tryd.func62 (by kernel_rfl) rfl #[.agg #[.string a0_0, .int .i64 a0_1, .int .i64 a0_2, .slice A0_3 l0_3.length c0_3], .slice Ao29 x3_1.length co29, .int .i64 x7_2, .int .i64 0] rfl (by (try simp only [List.map_toArray, List.map_cons, List.map_nil]); first | done | rfl | (simp only [List.length_drop, List.length_take]; rfl)) ?_; (with_reducible refine (cubbyref11_ahead.calls k2 a0_0 a0_1 a0_2 _ _ l0_3 _ _ x3_1 x7_2 0 t245 _ ?side1 ?side2 ?side3 ?side4 A17.out).mono ?_); (case side1 => repeat (first | exact (Kd.C_below HR0_3.out HB.out) | (with_reducible refine Kd.C_alloc ?_ _) | (with_reducible refine Kd.C_drewN ?_ _) | (with_reducible refine Kd.C_drew ?_))); (case side2 => exact HC0_3.out); (case side3 => repeat (first | exact (Kd.S_reads' HO_3.out).2.2 | (with_reducible refine Kd.C_alloc ?_ _) | (with_reducible refine Kd.C_drewN ?_ _) | (with_reducible refine Kd.C_drew ?_))); (case side4 => exact (Kd.S_reads' HO_3.out).2.1); rintro e w30 ⟨v246, rfl, ho0, hb⟩; refine ⟨_, rfl, ?_⟩; have n0_ := Aside0.mk (Kd.S_elder' (by (with_reducible repeat (first | apply Kd.S_alloc | apply Kd.S_drewN | apply Kd.S_drew)); exact HO_3.out) (Kd.R_base ho0) hb); have n1_ := Aside0.mk (Kd.S_elder' (by (with_reducible repeat (first | apply Kd.S_alloc | apply Kd.S_drewN | apply Kd.S_drew)); exact HO_5.out) (Kd.R_base ho0) hb); have n2_ := Aside0.mk (Kd.R_lower ho0 (below_size (by repeat (first | (with_reducible first | exact HB.out | apply bA | apply bN | apply bD | refine bS ?_ GE237.out) | exact HB.out)))); have n3_ := Aside0.mk (blk_below (g := gb237) (o := .cells #[.string a0_0, .int .i64 a0_1, .int .i64 a0_2, .slice A0_3 l0_3.length c0_3] 24 (0, 0)) (by (with_reducible repeat (first | refine kN ?_ _ | refine blk_drew ?_ | refine kA ?_ _)); exact BK237.out) hb); have n4_ := Aside0.mk (below_step (by repeat (first | (with_reducible first | exact HB.out | apply bA | apply bN | apply bD | refine bS ?_ GE237.out) | exact HB.out)) hb); clear HO_3; clear HO_5; clear BK237; clear HB; have HO_3 := n0_; have HO_5 := n1_; have HO247 := n2_; have BK237 := n3_; have HB := n4_; clear n0_ n1_ n2_ n3_ n4_; (try clear hb); (try clear hb2); (try clear hk); (try clear hi); (try clear ho0); obtain ⟨Ao32, co32, eo32⟩ := Kd.R_slice HO247.out; subst eo32) | ((with_reducible refine gate_builtin (b := .append) (xs := #[.tmp 50, .tmp 52]) rfl ?_); (try (refine gate_guard (by rfl) ?_; dsimp only)); at_builtin; refine Kd.S_append (Kd.slice 3 (Kd.int .i64)) (w0 := w) w.heap.size rfl (.tmp 50) (.tmp 52) 60 26 (.slice none 0 0) 24 rfl Tryd.underlying60 info26 rfl (by decide) (by omega) u5 x5_2 t245 [.slice Ao32 t245.length co32] (fun k_ => some k_ ≠ (.slice Ao29 x3_1.length co29 : Value).ownBlock) (fun k_ => some k_ = (.slice Ao32 t245.length co32 : Value).ownBlock) rfl rfl ?aP (fun k_ hk_ => ((Kd.R_mono (ok' := fun k_ => ((fun k_ => some k_ ≠ (.slice Ao29 x3_1.length co29 : Value).ownBlock)) k_ ∧ some k_ ≠ (u5 : Value).ownBlock) (Kd.R_apart' (Kd.R_apart' (HO247.out) (Kd.S_typed HO_3.out) (by decide)) (Kd.S_typed HO_5.out) (by decide)) (fun k_ hk => ⟨hk.1.2, hk.2⟩))).1 k_ hk_.symm) ?aF ?aO ?aB ?aS ?aL ?_; (case aP => exact Kd.M_row (Kd.R_mono (Kd.R_tight rfl (Kd.R_mono (ok' := fun k_ => ((fun k_ => some k_ ≠ (.slice Ao29 x3_1.length co29 : Value).ownBlock)) k_ ∧ some k_ ≠ (u5 : Value).ownBlock) (Kd.R_apart' (Kd.R_apart' (HO247.out) (Kd.S_typed HO_3.out) (by decide)) (Kd.S_typed HO_5.out) (by decide)) (fun k_ hk => ⟨hk.1.2, hk.2⟩))) (fun _ h_ => h_))); (case aB => exact (by repeat (first | (with_reducible first | exact HB.out | apply bA | apply bN | apply bD | refine bS ?_ GE237.out) | exact HB.out))); (case aF => exact (fun k_ hk => Kd.fresh' (Kd.S_lt (by (with_reducible repeat (first | apply Kd.S_alloc | apply Kd.S_drewN | apply Kd.S_drew)); exact HO_3.out)) k_ hk)); (case aO => exact (by (with_reducible repeat (first | apply Kd.S_alloc | apply Kd.S_drewN | apply Kd.S_drew)); exact Kd.S_mono HO_5.out (fun k_ hk => ⟨hk.1, fun e_ => hk.2 e_⟩))); (case aS => exact (below_size (by repeat (first | (with_reducible first | exact HB.out | apply bA | apply bN | apply bD | refine bS ?_ GE237.out) | exact HB.out)))); (case aL => have := LMc27.out; omega); intro v253 w31 ho hb hg hat; rw [← Ny252.out] at ho; have n0_ := Aside0.mk (Kd.S_after (ok := (fun k_ => some k_ ≠ (.slice Ao32 t245.length co32 : Value).ownBlock)) (by (with_reducible repeat (first | apply Kd.S_alloc | apply Kd.S_drewN | apply Kd.S_drew)); exact Kd.S_mono HO_3.out (fun _ hk => ⟨hk.2, hk.1⟩)) hg hat); have n1_ := Aside0.mk (blk_grown (g := gb237) (o := .cells #[.string a0_0, .int .i64 a0_1, .int .i64 a0_2, .slice A0_3 l0_3.length c0_3] 24 (0, 0)) (by (with_reducible repeat (first | refine kN ?_ _ | refine blk_drew ?_ | refine kA ?_ _)); exact BK237.out) hg (Kd.S_ne HO_5.out BK237.out (by decide))); have n2_ := Aside0.mk (hb); have n3_ := Aside0.mk (ho); clear HO_3; clear BK237; clear HB; clear HO_5; clear HO247; have HO_3 := n0_; have BK237 := n1_; have HB := n2_; have HO254 := n3_; clear n0_ n1_ n2_ n3_; clear ho hb hg hat))
            go_roundg k2
            case measure => have := HK1.out; have := HK2.out; omega
            case rel => exact ⟨(y252), (false), (wrap64 (x7_2 + 1)), (by first | rfl | (simp; done) | (simp [*]; done)), (by first | rfl | (simp; done) | (simp [*]; done)), H', ⟨by have := HK1.out; have := HK2.out; omega⟩, ⟨by (with_reducible repeat (first | apply Kd.S_alloc | apply Kd.S_drewN | apply Kd.S_drew)); exact Kd.S_mono HO_3.out (fun _ hk => hk.2)⟩, ⟨by (with_reducible repeat (first | apply Kd.S_alloc | apply Kd.S_drewN | apply Kd.S_drew)); exact HO254.out⟩, ⟨by (with_reducible repeat (first | refine kN ?_ _ | refine blk_drew ?_ | refine kA ?_ _)); exact BK237.out⟩, ⟨by repeat (first | (with_reducible first | exact HB.out | apply bA | apply bN | apply bD | refine bS ?_ GE237.out) | exact HB.out)⟩⟩
           ·rw [if_neg c27] at H
            exact absurd H (by simp)
         ·rw [if_neg c16] at H
          have c16b0 : decide (x7_2 < (l0_3.length : Int)) = false := decide_eq_false c16
          clear c16
          by_cases c33 : x6_2 = true
          ·subst c33
           have H1 : (some x5_2) = some r := by rw [if_pos rfl] at H; exact H
           clear H
           have H := H1
           clear H1
           obtain rfl := Option.some.inj H
           have hcz34_0 : wr.cell? ⟨gb237, 0, none⟩ = some (.string a0_0) := (bC BK237.out 0).trans rfl
           have hcz34_1 : wr.cell? ⟨gb237, 1, none⟩ = some (.int .i64 a0_1) := (bC BK237.out 1).trans rfl
           have hcz34_2 : wr.cell? ⟨gb237, 2, none⟩ = some (.int .i64 a0_2) := (bC BK237.out 2).trans rfl
           have hcz34_3 : wr.cell? ⟨gb237, 3, none⟩ = some (.slice A0_3 l0_3.length c0_3) := (bC BK237.out 3).trans rfl
           have hfz34_0 := bZ BK237.out 0
           have hfz34_1 := bZ BK237.out 1
           have hfz34_2 := bZ BK237.out 2
           have hfz34_3 := bZ BK237.out 3
           go_wp2
           go_ret
           exact ⟨_, by first | rfl | (simp [errW_none, errW_some] <;> rfl) | (simp [*, errW_none, errW_some] <;> rfl), by (with_reducible repeat (first | apply Kd.S_alloc | apply Kd.S_drewN | apply Kd.S_drew)); exact Kd.S_mono HO_5.out (fun _ hk => trivial), by repeat (first | (with_reducible first | exact HB.out | apply bA | apply bN | apply bD | refine bS ?_ GE237.out) | exact HB.out)⟩
          ·replace c33 := Bool.eq_false_iff.mpr c33
           subst c33
           have H1 : (cubbyref11_In.l0 k2 x5_2 (wrap64 (x4_1 + 1)) a0_0 a0_1 a0_2 l0_3) = some r := by rw [if_neg (show ¬ (false = true) by decide)] at H; exact H
           clear H
           have H := H1
           clear H1
           have H' := Aside0.mk H
           clear H
           have hcz35_0 : wr.cell? ⟨gb237, 0, none⟩ = some (.string a0_0) := (bC BK237.out 0).trans rfl
           have hcz35_1 : wr.cell? ⟨gb237, 1, none⟩ = some (.int .i64 a0_1) := (bC BK237.out 1).trans rfl
           have hcz35_2 : wr.cell? ⟨gb237, 2, none⟩ = some (.int .i64 a0_2) := (bC BK237.out 2).trans rfl
           have hcz35_3 : wr.cell? ⟨gb237, 3, none⟩ = some (.slice A0_3 l0_3.length c0_3) := (bC BK237.out 3).trans rfl
           have hfz35_0 := bZ BK237.out 0
           have hfz35_1 := bZ BK237.out 1
           have hfz35_2 := bZ BK237.out 2
           have hfz35_3 := bZ BK237.out 3
           go_wp2
           go_roundg k2
           case measure => have := HK1.out; have := HK2.out; omega
           case rel => exact ⟨(x5_2), (wrap64 (x4_1 + 1)), (by first | rfl | (simp; done) | (simp [*]; done)), H', ⟨by have := HK1.out; have := HK2.out; omega⟩, ⟨by (with_reducible repeat (first | apply Kd.S_alloc | apply Kd.S_drewN | apply Kd.S_drew)); exact Kd.S_mono HO_5.out (fun _ hk => trivial)⟩, ⟨by (with_reducible repeat (first | refine kN ?_ _ | refine blk_drew ?_ | refine kA ?_ _)); exact BK237.out⟩, ⟨by repeat (first | (with_reducible first | exact HB.out | apply bA | apply bN | apply bD | refine bS ?_ GE237.out) | exact HB.out)⟩⟩
      ·rw [if_neg c12] at H
       have c12b0 : decide (x4_1 ≤ (wrap64 ((wrap64 ((l0_3.length : Int) * a0_2)) + 1))) = false := decide_eq_false c12
       clear c12
       obtain rfl := Option.some.inj H
       have hcz36_0 : wr.cell? ⟨gb237, 0, none⟩ = some (.string a0_0) := (bC BK237.out 0).trans rfl
       have hcz36_1 : wr.cell? ⟨gb237, 1, none⟩ = some (.int .i64 a0_1) := (bC BK237.out 1).trans rfl
       have hcz36_2 : wr.cell? ⟨gb237, 2, none⟩ = some (.int .i64 a0_2) := (bC BK237.out 2).trans rfl
       have hcz36_3 : wr.cell? ⟨gb237, 3, none⟩ = some (.slice A0_3 l0_3.length c0_3) := (bC BK237.out 3).trans rfl
       have hfz36_0 := bZ BK237.out 0
       have hfz36_1 := bZ BK237.out 1
       have hfz36_2 := bZ BK237.out 2
       have hfz36_3 := bZ BK237.out 3
       go_wp2
       go_ret
       exact ⟨_, by first | rfl | (simp [errW_none, errW_some] <;> rfl) | (simp [*, errW_none, errW_some] <;> rfl), by (with_reducible repeat (first | apply Kd.S_alloc | apply Kd.S_drewN | apply Kd.S_drew)); exact HO_3.out, by repeat (first | (with_reducible first | exact HB.out | apply bA | apply bN | apply bD | refine bS ?_ GE237.out) | exact HB.out)⟩
   ·rw [if_neg c5] at H
    exact absurd H (by simp)
  ·rw [if_neg c4] at H
   exact absurd H (by simp)
 ·rw [if_neg c3] at H
  have c3b0 : (t238 == 0) = false := beq_eq_false_iff_ne.mpr c3
  have c3b1 : (t238 != 0) = true := bne_iff_ne.mpr c3
  obtain rfl := Option.some.inj H
  go_enter Tryd.func26, Tryd.ntmps26
  go_wp2_with (first | ((with_reducible refine gate_dst (N := 1) rfl ?_); (try (refine gate_guard (by rfl) ?_; dsimp only)); refine box_event ?hg (N := 1) ?hd (cs := #[.string a0_0, .int .i64 a0_1, .int .i64 a0_2, .slice A0_3 l0_3.length c0_3]) (t := 24) ?hr ?_; (case hd => rfl); (case hg => rfl); (case hr => first | (go_simp; done) | (go_simp; rfl)); intro gb237 hg w37 hbox hb; have n0_ := Aside0.mk (below_step (by repeat (first | (with_reducible first | exact HB.out | apply bA | apply bN | apply bD) | exact HB.out)) hb); have n1_ := Aside0.mk (hbox); have n2_ := Aside0.mk ((by rw [hg]; exact (below_size (by repeat (first | (with_reducible first | exact HB.out | apply bA | apply bN | apply bD) | exact HB.out))) : w.heap.size ≤ gb237)); have n3_ := Aside0.mk ((by rw [hg]; exact (below_size (by repeat (first | (with_reducible first | exact HB.out | apply bA | apply bN | apply bD) | exact HB.out))) : w.heap.size ≤ gb237)); clear HB; have HB := n0_; have BK237 := n1_; have GW237 := n2_; have GE237 := n3_; clear n0_ n1_ n2_ n3_; clear hb hbox hg; have hcz38_0 : w37.cell? ⟨gb237, 0, none⟩ = some (.string a0_0) := (bC BK237.out 0).trans rfl; have hcz38_1 : w37.cell? ⟨gb237, 1, none⟩ = some (.int .i64 a0_1) := (bC BK237.out 1).trans rfl; have hcz38_2 : w37.cell? ⟨gb237, 2, none⟩ = some (.int .i64 a0_2) := (bC BK237.out 2).trans rfl; have hcz38_3 : w37.cell? ⟨gb237, 3, none⟩ = some (.slice A0_3 l0_3.length c0_3) := (bC BK237.out 3).trans rfl; have hfz38_0 := bZ BK237.out 0; have hfz38_1 := bZ BK237.out 1; have hfz38_2 := bZ BK237.out 2; have hfz38_3 := bZ BK237.out 3) | ((with_reducible refine gate_callee (f := 11) rfl ?_); refine goesL_ (some 10) rfl rfl Tryd.func11 (by kernel_rfl) rfl #[.agg #[.string a0_0, .int .i64 a0_1, .int .i64 a0_2, .slice A0_3 l0_3.length c0_3]] rfl (by (try simp only [List.map_toArray, List.map_cons, List.map_nil]); first | done | rfl | (simp only [List.length_drop, List.length_take]; rfl)) ?_; (with_reducible refine (cubbyref07_Check.calls k a0_0 a0_1 a0_2 _ _ l0_3 t238 _ ?side1 ?side2 A2.out).mono ?_); (case side1 => repeat (first | exact (Kd.C_below HR0_3.out HB.out) | (with_reducible refine Kd.C_alloc ?_ _) | (with_reducible refine Kd.C_drewN ?_ _) | (with_reducible refine Kd.C_drew ?_))); (case side2 => exact HC0_3.out); rintro e w39 ⟨rfl, hb⟩; refine ⟨_, rfl, ?_⟩; have n0_ := Aside0.mk (blk_below (g := gb237) (o := .cells #[.string a0_0, .int .i64 a0_1, .int .i64 a0_2, .slice A0_3 l0_3.length c0_3] 24 (0, 0)) (by (with_reducible repeat (first | refine kN ?_ _ | refine blk_drew ?_ | refine kA ?_ _)); exact BK237.out) hb); have n1_ := Aside0.mk (below_step (by repeat (first | (with_reducible first | exact HB.out | apply bA | apply bN | apply bD | refine bS ?_ GE237.out) | exact HB.out)) hb); clear BK237; clear HB; have BK237 := n0_; have HB := n1_; clear n0_ n1_; (try clear hb); (try clear hb2); (try clear hk); (try clear hi)))
  go_ret
  exact ⟨_, by first | rfl | (simp [errW_none, errW_some] <;> rfl) | (simp [*, errW_none, errW_some] <;> rfl), by first | exact Kd.S_nil _ _ _ _ _ | exact Kd.N_nil _ _ _ _ _ | exact Kd.V_nil _ _ _ _ _ | exact Kd.Q_nil _ _ _ _ _ | exact Kd.R_nil _ _ _ _ _, by repeat (first | (with_reducible first | exact HB.out | apply bA | apply bN | apply bD | refine bS ?_ GE237.out) | exact HB.out)⟩
end Go.Proofs.YtoilapjkgligfaaDoor.P
namespace Go.Proofs.YtoilapjkgligfaaDoor.P
open Go.RowKit Go.Proofs.YtoilapjkgligfaaDoorW.PrintWords Go.Proofs.YtoilapjkgligfaaDoorW.PrintLast Go.Proofs.YtoilapjkgligfaaDoorW.PrintMore
attribute [local go_sem] max2_int min2_int max_two min_two max_three min_three max_four min_four 
set_option linter.unusedVariables false
set_option linter.unusedSimpArgs false
def cubbyref11_Check.l0 : Nat → List Int → Int → ByteArray → Int → Int → List (List (S32)) → Option (Int)
 | 0, _, _, _, _, _, _ => none
 | k + 1, x4, x5, y0, y1, y2, y3 => if x5 < (x4.length : Int) then (if 0 ≤ x5 then (if (rd x4 x5) ≥ y1 then (some 110) else (cubbyref11_Check.l0 k x4 (wrap64 (x5 + 1)) y0 y1 y2 y3)) else (none)) else (some 0)
def cubbyref11_Check.f (k : Nat) (a0_0 : ByteArray) (a0_1 : Int) (a0_2 : Int) (l0_3 : List (List (S32))) : Option (Int) := (cubbyref07_Check.f k a0_0 a0_1 a0_2 l0_3).bind fun t256 => (if t256 = 0 then ((cubbyref11_In.f k a0_0 a0_1 a0_2 l0_3).bind fun t257 => (if 0 < (t257.length : Int) then (cubbyref11_Check.l0 k (rd_Li64 t257 0) 0 a0_0 a0_1 a0_2 l0_3) else (none))) else (some t256))
set_option maxHeartbeats 8000000 in
set_option maxRecDepth 100000 in
theorem cubbyref11_Check.calls (k : Nat) (a0_0 : ByteArray) (a0_1 : Int) (a0_2 : Int) (A0_3 : Option Addr) (c0_3 : Nat) (l0_3 : List (List (S32))) (r : Int) (w : World) (hr0_3 : Kd.C (Kd.slice 32 k32) w A0_3 l0_3.length l0_3) (hc0_3 : l0_3.length ≤ c0_3) (h : cubbyref11_Check.f k a0_0 a0_1 a0_2 l0_3 = some r) :
  Calls Tryd.prog 8 #[.agg #[.string a0_0, .int .i64 a0_1, .int .i64 a0_2, .slice A0_3 l0_3.length c0_3]] w fun e w' => e = .returned (.int .i64 r) ∧ Below w.heap.size w w' := by
 have hu24 := Tryd.underlying24
 have HR0_3 := Aside0.mk hr0_3
 have HC0_3 := Aside0.mk hc0_3
 clear hr0_3 hc0_3
 have HB := Aside0.mk (Below.refl w.heap.size w)
 have H : ((cubbyref07_Check.f k a0_0 a0_1 a0_2 l0_3).bind fun t256 => (if t256 = 0 then ((cubbyref11_In.f k a0_0 a0_1 a0_2 l0_3).bind fun t257 => (if 0 < (t257.length : Int) then (cubbyref11_Check.l0 k (rd_Li64 t257 0) 0 a0_0 a0_1 a0_2 l0_3) else (none))) else (some t256))) = some r := h
 clear h
 replace H := Option.bind_eq_some_iff.mp H
 obtain ⟨t256, A20, H⟩ := H
 replace H : (if t256 = 0 then ((cubbyref11_In.f k a0_0 a0_1 a0_2 l0_3).bind fun t257 => (if 0 < (t257.length : Int) then (cubbyref11_Check.l0 k (rd_Li64 t257 0) 0 a0_0 a0_1 a0_2 l0_3) else (none))) else (some t256)) = some r := H
 have A2 := Aside0.mk A20
 clear A20
 by_cases c3 : t256 = 0
 ·rw [if_pos c3] at H
  have c3b0 : (t256 == 0) = true := beq_iff_eq.mpr c3
  have c3b1 : (t256 != 0) = false := bne_eq_false_iff_eq.mpr c3
  clear c3
  replace H := Option.bind_eq_some_iff.mp H
  obtain ⟨t257, A40, H⟩ := H
  replace H : (if 0 < (t257.length : Int) then (cubbyref11_Check.l0 k (rd_Li64 t257 0) 0 a0_0 a0_1 a0_2 l0_3) else (none)) = some r := H
  have A4 := Aside0.mk A40
  clear A40
  by_cases c5 : 0 < (t257.length : Int)
  ·rw [if_pos c5] at H
   have c5b0 : decide (0 < (t257.length : Int)) = true := decide_eq_true c5
   have c5b1 : decide (0 < t257.length) = true := decide_eq_true (by omega)
   clear c5
   have H' := Aside0.mk H
   clear H
   go_enter Tryd.func8, Tryd.ntmps8
   go_wp2_with (first | ((with_reducible refine gate_dst (N := 1) rfl ?_); refine box_event ?hg (N := 1) ?hd (cs := #[.string a0_0, .int .i64 a0_1, .int .i64 a0_2, .slice A0_3 l0_3.length c0_3]) (t := 24) ?hr ?_; (case hd => rfl); (case hg => rfl); (case hr => first | (go_simp; done) | (go_simp; rfl)); intro gb255 hg w6 hbox hb; have n0_ := Aside0.mk (below_step (by repeat (first | (with_reducible first | exact HB.out | apply bA | apply bN | apply bD) | exact HB.out)) hb); have n1_ := Aside0.mk (hbox); have n2_ := Aside0.mk ((by rw [hg]; exact (below_size (by repeat (first | (with_reducible first | exact HB.out | apply bA | apply bN | apply bD) | exact HB.out))) : w.heap.size ≤ gb255)); have n3_ := Aside0.mk ((by rw [hg]; exact (below_size (by repeat (first | (with_reducible first | exact HB.out | apply bA | apply bN | apply bD) | exact HB.out))) : w.heap.size ≤ gb255)); clear HB; have HB := n0_; have BK255 := n1_; have GW255 := n2_; have GE255 := n3_; clear n0_ n1_ n2_ n3_; clear hb hbox hg; have hcz7_0 : w6.cell? ⟨gb255, 0, none⟩ = some (.string a0_0) := (bC BK255.out 0).trans rfl; have hcz7_1 : w6.cell? ⟨gb255, 1, none⟩ = some (.int .i64 a0_1) := (bC BK255.out 1).trans rfl; have hcz7_2 : w6.cell? ⟨gb255, 2, none⟩ = some (.int .i64 a0_2) := (bC BK255.out 2).trans rfl; have hcz7_3 : w6.cell? ⟨gb255, 3, none⟩ = some (.slice A0_3 l0_3.length c0_3) := (bC BK255.out 3).trans rfl; have hfz7_0 := bZ BK255.out 0; have hfz7_1 := bZ BK255.out 1; have hfz7_2 := bZ BK255.out 2; have hfz7_3 := bZ BK255.out 3) | (go_at_call 11; (with_reducible refine (cubbyref07_Check.calls k a0_0 a0_1 a0_2 _ _ l0_3 t256 _ ?side1 ?side2 A2.out).mono ?_); (case side1 => repeat (first | exact (Kd.C_below HR0_3.out HB.out) | (with_reducible refine Kd.C_alloc ?_ _) | (with_reducible refine Kd.C_drewN ?_ _) | (with_reducible refine Kd.C_drew ?_))); (case side2 => exact HC0_3.out); rintro e w8 ⟨rfl, hb⟩; have n0_ := Aside0.mk (blk_below (g := gb255) (o := .cells #[.string a0_0, .int .i64 a0_1, .int .i64 a0_2, .slice A0_3 l0_3.length c0_3] 24 (0, 0)) (by (with_reducible repeat (first | refine kN ?_ _ | refine blk_drew ?_ | refine kA ?_ _)); exact BK255.out) hb); have n1_ := Aside0.mk (below_step (by repeat (first | (with_reducible first | exact HB.out | apply bA | apply bN | apply bD | refine bS ?_ GE255.out) | exact HB.out)) hb); clear BK255; clear HB; have BK255 := n0_; have HB := n1_; clear n0_ n1_; (try clear hb); (try clear hb2); (try clear hk); (try clear hi); (try clear A2); have hcz9_0 : w8.cell? ⟨gb255, 0, none⟩ = some (.string a0_0) := (bC BK255.out 0).trans rfl; have hcz9_1 : w8.cell? ⟨gb255, 1, none⟩ = some (.int .i64 a0_1) := (bC BK255.out 1).trans rfl; have hcz9_2 : w8.cell? ⟨gb255, 2, none⟩ = some (.int .i64 a0_2) := (bC BK255.out 2).trans rfl; have hcz9_3 : w8.cell? ⟨gb255, 3, none⟩ = some (.slice A0_3 l0_3.length c0_3) := (bC BK255.out 3).trans rfl; have hfz9_0 := bZ BK255.out 0; have hfz9_1 := bZ BK255.out 1; have hfz9_2 := bZ BK255.out 2; have hfz9_3 := bZ BK255.out 3) | (go_at_call 26; (with_reducible refine (cubbyref11_In.calls k a0_0 a0_1 a0_2 _ _ l0_3 t257 _ ?side1 ?side2 A4.out).mono ?_); (case side1 => repeat (first | exact (Kd.C_below HR0_3.out HB.out) | (with_reducible refine Kd.C_alloc ?_ _) | (with_reducible refine Kd.C_drewN ?_ _) | (with_reducible refine Kd.C_drew ?_))); (case side2 => exact HC0_3.out); rintro e w10 ⟨v258, rfl, ho0, hb⟩; have n0_ := Aside0.mk (Kd.S_lower ho0 (below_size (by repeat (first | (with_reducible first | exact HB.out | apply bA | apply bN | apply bD | refine bS ?_ GE255.out) | exact HB.out)))); have n1_ := Aside0.mk (blk_below (g := gb255) (o := .cells #[.string a0_0, .int .i64 a0_1, .int .i64 a0_2, .slice A0_3 l0_3.length c0_3] 24 (0, 0)) (by (with_reducible repeat (first | refine kN ?_ _ | refine blk_drew ?_ | refine kA ?_ _)); exact BK255.out) hb); have n2_ := Aside0.mk (below_step (by repeat (first | (with_reducible first | exact HB.out | apply bA | apply bN | apply bD | refine bS ?_ GE255.out) | exact HB.out)) hb); clear BK255; clear HB; have HO259 := n0_; have BK255 := n1_; have HB := n2_; clear n0_ n1_ n2_; (try clear hb); (try clear hb2); (try clear hk); (try clear hi); (try clear ho0); (try clear A4); obtain ⟨Ao11, co11, eo11⟩ := Kd.S_slice HO259.out; subst eo11; have p260 : 0 ≤ (0 : Int) := (by omega); have q260 : 0 < (t257.length : Int) := oD (by first | (with_reducible assumption) | assumption); obtain ⟨ad260, A260_0, c260_0, e260, hx260_0, hl260_0, hi260_0⟩ := at_Li64 (Kd.S_reads' HO259.out).2.2 0 p260 q260; cases e260; obtain ⟨ce260, hce260, hMe260, hcc260⟩ := Kd.S_get HO259.out [] 0 p260 (by first | exact q260 | exact oD (by first | (with_reducible assumption) | assumption) | (have e_ := (Kd.S_reads' HO259.out).1; omega)); obtain ⟨ve260_0, rfl, ge260_0⟩ := hMe260; have hv260_0 := hcc260 0 _ rfl; rw [Nat.add_zero, show ((Kd.slice 3 (Kd.int .i64))).sz = 1 from rfl, Nat.mul_one] at hv260_0; replace hv260_0 := Option.some.inj (hv260_0.symm.trans hx260_0); rw [hv260_0] at ge260_0; have HL260_0 := Aside0.mk (show Kd.R (Kd.int .i64) 3 _ _ _ _ (rd_Li64 t257 0) from ge260_0); clear hv260_0 ge260_0; clear hcc260 hce260; have qi260 : (0 < t257.length) = True := eq_true (by omega); (try rw [show ((0 : Int)).toNat = 0 from rfl] at hx260_0); (try rw [Addr.add_zero'] at hx260_0); have HR260_0 := Aside0.mk hi260_0; have HC260_0 := Aside0.mk hl260_0; clear hi260_0 hl260_0; replace p260 := eq_true p260; replace q260 := eq_true q260))
   repeat (go_quiet (first | ((with_reducible refine gate_dst (N := 1) rfl ?_); refine box_event ?hg (N := 1) ?hd (cs := #[.string a0_0, .int .i64 a0_1, .int .i64 a0_2, .slice A0_3 l0_3.length c0_3]) (t := 24) ?hr ?_; (case hd => rfl); (case hg => rfl); (case hr => first | (go_simp; done) | (go_simp; rfl)); intro gb255 hg w6 hbox hb; have n0_ := Aside0.mk (below_step (by repeat (first | (with_reducible first | exact HB.out | apply bA | apply bN | apply bD) | exact HB.out)) hb); have n1_ := Aside0.mk (hbox); have n2_ := Aside0.mk ((by rw [hg]; exact (below_size (by repeat (first | (with_reducible first | exact HB.out | apply bA | apply bN | apply bD) | exact HB.out))) : w.heap.size ≤ gb255)); have n3_ := Aside0.mk ((by rw [hg]; exact (below_size (by repeat (first | (with_reducible first | exact HB.out | apply bA | apply bN | apply bD) | exact HB.out))) : w.heap.size ≤ gb255)); clear HB; have HB := n0_; have BK255 := n1_; have GW255 := n2_; have GE255 := n3_; clear n0_ n1_ n2_ n3_; clear hb hbox hg; have hcz7_0 : w6.cell? ⟨gb255, 0, none⟩ = some (.string a0_0) := (bC BK255.out 0).trans rfl; have hcz7_1 : w6.cell? ⟨gb255, 1, none⟩ = some (.int .i64 a0_1) := (bC BK255.out 1).trans rfl; have hcz7_2 : w6.cell? ⟨gb255, 2, none⟩ = some (.int .i64 a0_2) := (bC BK255.out 2).trans rfl; have hcz7_3 : w6.cell? ⟨gb255, 3, none⟩ = some (.slice A0_3 l0_3.length c0_3) := (bC BK255.out 3).trans rfl; have hfz7_0 := bZ BK255.out 0; have hfz7_1 := bZ BK255.out 1; have hfz7_2 := bZ BK255.out 2; have hfz7_3 := bZ BK255.out 3) | (go_at_call 11; (with_reducible refine (cubbyref07_Check.calls k a0_0 a0_1 a0_2 _ _ l0_3 t256 _ ?side1 ?side2 A2.out).mono ?_); (case side1 => repeat (first | exact (Kd.C_below HR0_3.out HB.out) | (with_reducible refine Kd.C_alloc ?_ _) | (with_reducible refine Kd.C_drewN ?_ _) | (with_reducible refine Kd.C_drew ?_))); (case side2 => exact HC0_3.out); rintro e w8 ⟨rfl, hb⟩; have n0_ := Aside0.mk (blk_below (g := gb255) (o := .cells #[.string a0_0, .int .i64 a0_1, .int .i64 a0_2, .slice A0_3 l0_3.length c0_3] 24 (0, 0)) (by (with_reducible repeat (first | refine kN ?_ _ | refine blk_drew ?_ | refine kA ?_ _)); exact BK255.out) hb); have n1_ := Aside0.mk (below_step (by repeat (first | (with_reducible first | exact HB.out | apply bA | apply bN | apply bD | refine bS ?_ GE255.out) | exact HB.out)) hb); clear BK255; clear HB; have BK255 := n0_; have HB := n1_; clear n0_ n1_; (try clear hb); (try clear hb2); (try clear hk); (try clear hi); (try clear A2); have hcz9_0 : w8.cell? ⟨gb255, 0, none⟩ = some (.string a0_0) := (bC BK255.out 0).trans rfl; have hcz9_1 : w8.cell? ⟨gb255, 1, none⟩ = some (.int .i64 a0_1) := (bC BK255.out 1).trans rfl; have hcz9_2 : w8.cell? ⟨gb255, 2, none⟩ = some (.int .i64 a0_2) := (bC BK255.out 2).trans rfl; have hcz9_3 : w8.cell? ⟨gb255, 3, none⟩ = some (.slice A0_3 l0_3.length c0_3) := (bC BK255.out 3).trans rfl; have hfz9_0 := bZ BK255.out 0; have hfz9_1 := bZ BK255.out 1; have hfz9_2 := bZ BK255.out 2; have hfz9_3 := bZ BK255.out 3) | (go_at_call 26; (with_reducible refine (cubbyref11_In.calls k a0_0 a0_1 a0_2 _ _ l0_3 t257 _ ?side1 ?side2 A4.out).mono ?_); (case side1 => repeat (first | exact (Kd.C_below HR0_3.out HB.out) | (with_reducible refine Kd.C_alloc ?_ _) | (with_reducible refine Kd.C_drewN ?_ _) | (with_reducible refine Kd.C_drew ?_))); (case side2 => exact HC0_3.out); rintro e w10 ⟨v258, rfl, ho0, hb⟩; have n0_ := Aside0.mk (Kd.S_lower ho0 (below_size (by repeat (first | (with_reducible first | exact HB.out | apply bA | apply bN | apply bD | refine bS ?_ GE255.out) | exact HB.out)))); have n1_ := Aside0.mk (blk_below (g := gb255) (o := .cells #[.string a0_0, .int .i64 a0_1, .int .i64 a0_2, .slice A0_3 l0_3.length c0_3] 24 (0, 0)) (by (with_reducible repeat (first | refine kN ?_ _ | refine blk_drew ?_ | refine kA ?_ _)); exact BK255.out) hb); have n2_ := Aside0.mk (below_step (by repeat (first | (with_reducible first | exact HB.out | apply bA | apply bN | apply bD | refine bS ?_ GE255.out) | exact HB.out)) hb); clear BK255; clear HB; have HO259 := n0_; have BK255 := n1_; have HB := n2_; clear n0_ n1_ n2_; (try clear hb); (try clear hb2); (try clear hk); (try clear hi); (try clear ho0); (try clear A4); obtain ⟨Ao11, co11, eo11⟩ := Kd.S_slice HO259.out; subst eo11; have p260 : 0 ≤ (0 : Int) := (by omega); have q260 : 0 < (t257.length : Int) := oD (by first | (with_reducible assumption) | assumption); obtain ⟨ad260, A260_0, c260_0, e260, hx260_0, hl260_0, hi260_0⟩ := at_Li64 (Kd.S_reads' HO259.out).2.2 0 p260 q260; cases e260; obtain ⟨ce260, hce260, hMe260, hcc260⟩ := Kd.S_get HO259.out [] 0 p260 (by first | exact q260 | exact oD (by first | (with_reducible assumption) | assumption) | (have e_ := (Kd.S_reads' HO259.out).1; omega)); obtain ⟨ve260_0, rfl, ge260_0⟩ := hMe260; have hv260_0 := hcc260 0 _ rfl; rw [Nat.add_zero, show ((Kd.slice 3 (Kd.int .i64))).sz = 1 from rfl, Nat.mul_one] at hv260_0; replace hv260_0 := Option.some.inj (hv260_0.symm.trans hx260_0); rw [hv260_0] at ge260_0; have HL260_0 := Aside0.mk (show Kd.R (Kd.int .i64) 3 _ _ _ _ (rd_Li64 t257 0) from ge260_0); clear hv260_0 ge260_0; clear hcc260 hce260; have qi260 : (0 < t257.length) = True := eq_true (by omega); (try rw [show ((0 : Int)).toNat = 0 from rfl] at hx260_0); (try rw [Addr.add_zero'] at hx260_0); have HR260_0 := Aside0.mk hi260_0; have HC260_0 := Aside0.mk hl260_0; clear hi260_0 hl260_0; replace p260 := eq_true p260; replace q260 := eq_true q260)); try go_wp2_with (first | ((with_reducible refine gate_dst (N := 1) rfl ?_); refine box_event ?hg (N := 1) ?hd (cs := #[.string a0_0, .int .i64 a0_1, .int .i64 a0_2, .slice A0_3 l0_3.length c0_3]) (t := 24) ?hr ?_; (case hd => rfl); (case hg => rfl); (case hr => first | (go_simp; done) | (go_simp; rfl)); intro gb255 hg w6 hbox hb; have n0_ := Aside0.mk (below_step (by repeat (first | (with_reducible first | exact HB.out | apply bA | apply bN | apply bD) | exact HB.out)) hb); have n1_ := Aside0.mk (hbox); have n2_ := Aside0.mk ((by rw [hg]; exact (below_size (by repeat (first | (with_reducible first | exact HB.out | apply bA | apply bN | apply bD) | exact HB.out))) : w.heap.size ≤ gb255)); have n3_ := Aside0.mk ((by rw [hg]; exact (below_size (by repeat (first | (with_reducible first | exact HB.out | apply bA | apply bN | apply bD) | exact HB.out))) : w.heap.size ≤ gb255)); clear HB; have HB := n0_; have BK255 := n1_; have GW255 := n2_; have GE255 := n3_; clear n0_ n1_ n2_ n3_; clear hb hbox hg; have hcz7_0 : w6.cell? ⟨gb255, 0, none⟩ = some (.string a0_0) := (bC BK255.out 0).trans rfl; have hcz7_1 : w6.cell? ⟨gb255, 1, none⟩ = some (.int .i64 a0_1) := (bC BK255.out 1).trans rfl; have hcz7_2 : w6.cell? ⟨gb255, 2, none⟩ = some (.int .i64 a0_2) := (bC BK255.out 2).trans rfl; have hcz7_3 : w6.cell? ⟨gb255, 3, none⟩ = some (.slice A0_3 l0_3.length c0_3) := (bC BK255.out 3).trans rfl; have hfz7_0 := bZ BK255.out 0; have hfz7_1 := bZ BK255.out 1; have hfz7_2 := bZ BK255.out 2; have hfz7_3 := bZ BK255.out 3) | (go_at_call 11; (with_reducible refine (cubbyref07_Check.calls k a0_0 a0_1 a0_2 _ _ l0_3 t256 _ ?side1 ?side2 A2.out).mono ?_); (case side1 => repeat (first | exact (Kd.C_below HR0_3.out HB.out) | (with_reducible refine Kd.C_alloc ?_ _) | (with_reducible refine Kd.C_drewN ?_ _) | (with_reducible refine Kd.C_drew ?_))); (case side2 => exact HC0_3.out); rintro e w8 ⟨rfl, hb⟩; have n0_ := Aside0.mk (blk_below (g := gb255) (o := .cells #[.string a0_0, .int .i64 a0_1, .int .i64 a0_2, .slice A0_3 l0_3.length c0_3] 24 (0, 0)) (by (with_reducible repeat (first | refine kN ?_ _ | refine blk_drew ?_ | refine kA ?_ _)); exact BK255.out) hb); have n1_ := Aside0.mk (below_step (by repeat (first | (with_reducible first | exact HB.out | apply bA | apply bN | apply bD | refine bS ?_ GE255.out) | exact HB.out)) hb); clear BK255; clear HB; have BK255 := n0_; have HB := n1_; clear n0_ n1_; (try clear hb); (try clear hb2); (try clear hk); (try clear hi); (try clear A2); have hcz9_0 : w8.cell? ⟨gb255, 0, none⟩ = some (.string a0_0) := (bC BK255.out 0).trans rfl; have hcz9_1 : w8.cell? ⟨gb255, 1, none⟩ = some (.int .i64 a0_1) := (bC BK255.out 1).trans rfl; have hcz9_2 : w8.cell? ⟨gb255, 2, none⟩ = some (.int .i64 a0_2) := (bC BK255.out 2).trans rfl; have hcz9_3 : w8.cell? ⟨gb255, 3, none⟩ = some (.slice A0_3 l0_3.length c0_3) := (bC BK255.out 3).trans rfl; have hfz9_0 := bZ BK255.out 0; have hfz9_1 := bZ BK255.out 1; have hfz9_2 := bZ BK255.out 2; have hfz9_3 := bZ BK255.out 3) | (go_at_call 26; (with_reducible refine (cubbyref11_In.calls k a0_0 a0_1 a0_2 _ _ l0_3 t257 _ ?side1 ?side2 A4.out).mono ?_); (case side1 => repeat (first | exact (Kd.C_below HR0_3.out HB.out) | (with_reducible refine Kd.C_alloc ?_ _) | (with_reducible refine Kd.C_drewN ?_ _) | (with_reducible refine Kd.C_drew ?_))); (case side2 => exact HC0_3.out); rintro e w10 ⟨v258, rfl, ho0, hb⟩; have n0_ := Aside0.mk (Kd.S_lower ho0 (below_size (by repeat (first | (with_reducible first | exact HB.out | apply bA | apply bN | apply bD | refine bS ?_ GE255.out) | exact HB.out)))); have n1_ := Aside0.mk (blk_below (g := gb255) (o := .cells #[.string a0_0, .int .i64 a0_1, .int .i64 a0_2, .slice A0_3 l0_3.length c0_3] 24 (0, 0)) (by (with_reducible repeat (first | refine kN ?_ _ | refine blk_drew ?_ | refine kA ?_ _)); exact BK255.out) hb); have n2_ := Aside0.mk (below_step (by repeat (first | (with_reducible first | exact HB.out | apply bA | apply bN | apply bD | refine bS ?_ GE255.out) | exact HB.out)) hb); clear BK255; clear HB; have HO259 := n0_; have BK255 := n1_; have HB := n2_; clear n0_ n1_ n2_; (try clear hb); (try clear hb2); (try clear hk); (try clear hi); (try clear ho0); (try clear A4); obtain ⟨Ao11, co11, eo11⟩ := Kd.S_slice HO259.out; subst eo11; have p260 : 0 ≤ (0 : Int) := (by omega); have q260 : 0 < (t257.length : Int) := oD (by first | (with_reducible assumption) | assumption); obtain ⟨ad260, A260_0, c260_0, e260, hx260_0, hl260_0, hi260_0⟩ := at_Li64 (Kd.S_reads' HO259.out).2.2 0 p260 q260; cases e260; obtain ⟨ce260, hce260, hMe260, hcc260⟩ := Kd.S_get HO259.out [] 0 p260 (by first | exact q260 | exact oD (by first | (with_reducible assumption) | assumption) | (have e_ := (Kd.S_reads' HO259.out).1; omega)); obtain ⟨ve260_0, rfl, ge260_0⟩ := hMe260; have hv260_0 := hcc260 0 _ rfl; rw [Nat.add_zero, show ((Kd.slice 3 (Kd.int .i64))).sz = 1 from rfl, Nat.mul_one] at hv260_0; replace hv260_0 := Option.some.inj (hv260_0.symm.trans hx260_0); rw [hv260_0] at ge260_0; have HL260_0 := Aside0.mk (show Kd.R (Kd.int .i64) 3 _ _ _ _ (rd_Li64 t257 0) from ge260_0); clear hv260_0 ge260_0; clear hcc260 hce260; have qi260 : (0 < t257.length) = True := eq_true (by omega); (try rw [show ((0 : Int)).toNat = 0 from rfl] at hx260_0); (try rw [Addr.add_zero'] at hx260_0); have HR260_0 := Aside0.mk hi260_0; have HC260_0 := Aside0.mk hl260_0; clear hi260_0 hl260_0; replace p260 := eq_true p260; replace q260 := eq_true q260)))
   go_loopg [5] k (fun kq v5 w' => ∃ (x5_1 : Int), v5 = .int .i64 x5_1 ∧ Aside0 (cubbyref11_Check.l0 kq (rd_Li64 t257 0) x5_1 a0_0 a0_1 a0_2 l0_3 = some r) ∧ Aside0 (kq ≤ k) ∧ Aside0 (w'.heap[gb255]? = some (.cells #[.string a0_0, .int .i64 a0_1, .int .i64 a0_2, (.slice A0_3 l0_3.length c0_3)] 24 (0, 0))) ∧ Aside0 (Kd.C (Kd.int .i64) w' A260_0 (rd_Li64 t257 0).length (rd_Li64 t257 0)) ∧ Aside0 (Below w.heap.size w w'))
   case atStart => exact ⟨(0), (by first | rfl | (simp; done) | (simp [*]; done)), H', ⟨Nat.le_refl _⟩, ⟨by (with_reducible repeat (first | refine kN ?_ _ | refine blk_drew ?_ | refine kA ?_ _)); exact BK255.out⟩, ⟨by repeat (first | (with_reducible exact HR260_0.out) | (with_reducible refine Kd.C_alloc ?_ _) | (with_reducible refine Kd.C_drewN ?_ _) | (with_reducible refine Kd.C_drew ?_) | exact HR260_0.out)⟩, ⟨by repeat (first | (with_reducible first | exact HB.out | apply bA | apply bN | apply bD | refine bS ?_ GE255.out) | exact HB.out)⟩⟩
   case round =>
    clear H'
    try clear c2
    try clear p2
    try clear q2
    try clear hx2
    try clear qi2
    try clear c3
    try clear c3b0
    try clear c3b1
    try clear c5
    try clear c5b0
    try clear c5b1
    try clear c8
    try clear hcz7_0
    try clear hcz7_1
    try clear hcz7_2
    try clear hcz7_3
    try clear hcz9_0
    try clear hcz9_1
    try clear hcz9_2
    try clear hcz9_3
    try clear hfz7_0
    try clear hfz7_1
    try clear hfz7_2
    try clear hfz7_3
    try clear hfz9_0
    try clear hfz9_1
    try clear hfz9_2
    try clear hfz9_3
    try clear hx260_0
    try clear p260
    try clear q260
    obtain ⟨x5_1, rfl, HA, HK1, BK255, HR260_0, HB⟩ := hrel
    cases gk with
    | zero => exact absurd HA.out (by simp [cubbyref11_Check.l0])
    | succ k1 =>
     have H := HA.out
     clear HA
     simp only [cubbyref11_Check.l0] at H
     by_cases c12 : x5_1 < ((rd_Li64 t257 0).length : Int)
     ·rw [if_pos c12] at H
      have c12b0 : decide (x5_1 < ((rd_Li64 t257 0).length : Int)) = true := decide_eq_true c12
      clear c12
      by_cases c13 : 0 ≤ x5_1
      ·rw [if_pos c13] at H
       have c13b0 : decide (0 ≤ x5_1) = true := decide_eq_true c13
       clear c13
       by_cases c14 : (rd (rd_Li64 t257 0) x5_1) ≥ a0_1
       ·rw [if_pos c14] at H
        have c14b0 : decide (a0_1 ≤ (rd (rd_Li64 t257 0) x5_1)) = true := decide_eq_true c14
        clear c14
        obtain rfl := Option.some.inj H
        have p261 : 0 ≤ (x5_1 : Int) := oD (by first | (with_reducible assumption) | assumption)
        have q261 : x5_1 < ((rd_Li64 t257 0).length : Int) := oD (by first | (with_reducible assumption) | assumption)
        obtain ⟨ad261, e261, hx261_0⟩ := Kd.at_int HR260_0.out x5_1 p261 q261
        cases e261
        (try replace hx261_0 := (HB.out.cell (lC w _ hx261_0)).trans hx261_0)
        replace p261 := eq_true p261
        replace q261 := eq_true q261
        have hcz15_0 : wr.cell? ⟨gb255, 0, none⟩ = some (.string a0_0) := (bC BK255.out 0).trans rfl
        have hcz15_1 : wr.cell? ⟨gb255, 1, none⟩ = some (.int .i64 a0_1) := (bC BK255.out 1).trans rfl
        have hcz15_2 : wr.cell? ⟨gb255, 2, none⟩ = some (.int .i64 a0_2) := (bC BK255.out 2).trans rfl
        have hcz15_3 : wr.cell? ⟨gb255, 3, none⟩ = some (.slice A0_3 l0_3.length c0_3) := (bC BK255.out 3).trans rfl
        have hfz15_0 := bZ BK255.out 0
        have hfz15_1 := bZ BK255.out 1
        have hfz15_2 := bZ BK255.out 2
        have hfz15_3 := bZ BK255.out 3
        go_wp2
        repeat (go_quiet (fail); try go_wp2)
        go_ret
        exact ⟨by first | rfl | (simp [errW_none, errW_some] <;> rfl) | (simp [*, errW_none, errW_some] <;> rfl), by repeat (first | (with_reducible first | exact HB.out | apply bA | apply bN | apply bD | refine bS ?_ GE255.out) | exact HB.out)⟩
       ·rw [if_neg c14] at H
        have c14b0 : decide (a0_1 ≤ (rd (rd_Li64 t257 0) x5_1)) = false := decide_eq_false c14
        clear c14
        have H' := Aside0.mk H
        clear H
        have p261 : 0 ≤ (x5_1 : Int) := oD (by first | (with_reducible assumption) | assumption)
        have q261 : x5_1 < ((rd_Li64 t257 0).length : Int) := oD (by first | (with_reducible assumption) | assumption)
        obtain ⟨ad261, e261, hx261_0⟩ := Kd.at_int HR260_0.out x5_1 p261 q261
        cases e261
        (try replace hx261_0 := (HB.out.cell (lC w _ hx261_0)).trans hx261_0)
        replace p261 := eq_true p261
        replace q261 := eq_true q261
        have hcz16_0 : wr.cell? ⟨gb255, 0, none⟩ = some (.string a0_0) := (bC BK255.out 0).trans rfl
        have hcz16_1 : wr.cell? ⟨gb255, 1, none⟩ = some (.int .i64 a0_1) := (bC BK255.out 1).trans rfl
        have hcz16_2 : wr.cell? ⟨gb255, 2, none⟩ = some (.int .i64 a0_2) := (bC BK255.out 2).trans rfl
        have hcz16_3 : wr.cell? ⟨gb255, 3, none⟩ = some (.slice A0_3 l0_3.length c0_3) := (bC BK255.out 3).trans rfl
        have hfz16_0 := bZ BK255.out 0
        have hfz16_1 := bZ BK255.out 1
        have hfz16_2 := bZ BK255.out 2
        have hfz16_3 := bZ BK255.out 3
        go_wp2
        repeat (go_quiet (fail); try go_wp2)
        go_roundg k1
        case measure => have := HK1.out; omega
        case rel => exact ⟨(wrap64 (x5_1 + 1)), (by first | rfl | (simp; done) | (simp [*]; done)), H', ⟨by have := HK1.out; omega⟩, ⟨by (with_reducible repeat (first | refine kN ?_ _ | refine blk_drew ?_ | refine kA ?_ _)); exact BK255.out⟩, ⟨by repeat (first | (with_reducible exact HR260_0.out) | (with_reducible refine Kd.C_alloc ?_ _) | (with_reducible refine Kd.C_drewN ?_ _) | (with_reducible refine Kd.C_drew ?_) | exact HR260_0.out)⟩, ⟨by repeat (first | (with_reducible first | exact HB.out | apply bA | apply bN | apply bD | refine bS ?_ GE255.out) | exact HB.out)⟩⟩
      ·rw [if_neg c13] at H
       exact absurd H (by simp)
     ·rw [if_neg c12] at H
      have c12b0 : decide (x5_1 < ((rd_Li64 t257 0).length : Int)) = false := decide_eq_false c12
      clear c12
      obtain rfl := Option.some.inj H
      go_wp2
      repeat (go_quiet (fail); try go_wp2)
      go_ret
      exact ⟨by first | rfl | (simp [errW_none, errW_some] <;> rfl) | (simp [*, errW_none, errW_some] <;> rfl), by repeat (first | (with_reducible first | exact HB.out | apply bA | apply bN | apply bD | refine bS ?_ GE255.out) | exact HB.out)⟩
  ·rw [if_neg c5] at H
   exact absurd H (by simp)
 ·rw [if_neg c3] at H
  have c3b0 : (t256 == 0) = false := beq_eq_false_iff_ne.mpr c3
  have c3b1 : (t256 != 0) = true := bne_iff_ne.mpr c3
  obtain rfl := Option.some.inj H
  go_enter Tryd.func8, Tryd.ntmps8
  go_wp2_with (first | ((with_reducible refine gate_dst (N := 1) rfl ?_); refine box_event ?hg (N := 1) ?hd (cs := #[.string a0_0, .int .i64 a0_1, .int .i64 a0_2, .slice A0_3 l0_3.length c0_3]) (t := 24) ?hr ?_; (case hd => rfl); (case hg => rfl); (case hr => first | (go_simp; done) | (go_simp; rfl)); intro gb255 hg w17 hbox hb; have n0_ := Aside0.mk (below_step (by repeat (first | (with_reducible first | exact HB.out | apply bA | apply bN | apply bD) | exact HB.out)) hb); have n1_ := Aside0.mk (hbox); have n2_ := Aside0.mk ((by rw [hg]; exact (below_size (by repeat (first | (with_reducible first | exact HB.out | apply bA | apply bN | apply bD) | exact HB.out))) : w.heap.size ≤ gb255)); have n3_ := Aside0.mk ((by rw [hg]; exact (below_size (by repeat (first | (with_reducible first | exact HB.out | apply bA | apply bN | apply bD) | exact HB.out))) : w.heap.size ≤ gb255)); clear HB; have HB := n0_; have BK255 := n1_; have GW255 := n2_; have GE255 := n3_; clear n0_ n1_ n2_ n3_; clear hb hbox hg; have hcz18_0 : w17.cell? ⟨gb255, 0, none⟩ = some (.string a0_0) := (bC BK255.out 0).trans rfl; have hcz18_1 : w17.cell? ⟨gb255, 1, none⟩ = some (.int .i64 a0_1) := (bC BK255.out 1).trans rfl; have hcz18_2 : w17.cell? ⟨gb255, 2, none⟩ = some (.int .i64 a0_2) := (bC BK255.out 2).trans rfl; have hcz18_3 : w17.cell? ⟨gb255, 3, none⟩ = some (.slice A0_3 l0_3.length c0_3) := (bC BK255.out 3).trans rfl; have hfz18_0 := bZ BK255.out 0; have hfz18_1 := bZ BK255.out 1; have hfz18_2 := bZ BK255.out 2; have hfz18_3 := bZ BK255.out 3) | (go_at_call 11; (with_reducible refine (cubbyref07_Check.calls k a0_0 a0_1 a0_2 _ _ l0_3 t256 _ ?side1 ?side2 A2.out).mono ?_); (case side1 => repeat (first | exact (Kd.C_below HR0_3.out HB.out) | (with_reducible refine Kd.C_alloc ?_ _) | (with_reducible refine Kd.C_drewN ?_ _) | (with_reducible refine Kd.C_drew ?_))); (case side2 => exact HC0_3.out); rintro e w19 ⟨rfl, hb⟩; have n0_ := Aside0.mk (blk_below (g := gb255) (o := .cells #[.string a0_0, .int .i64 a0_1, .int .i64 a0_2, .slice A0_3 l0_3.length c0_3] 24 (0, 0)) (by (with_reducible repeat (first | refine kN ?_ _ | refine blk_drew ?_ | refine kA ?_ _)); exact BK255.out) hb); have n1_ := Aside0.mk (below_step (by repeat (first | (with_reducible first | exact HB.out | apply bA | apply bN | apply bD | refine bS ?_ GE255.out) | exact HB.out)) hb); clear BK255; clear HB; have BK255 := n0_; have HB := n1_; clear n0_ n1_; (try clear hb); (try clear hb2); (try clear hk); (try clear hi); (try clear A2)))
  repeat (go_quiet (first | ((with_reducible refine gate_dst (N := 1) rfl ?_); refine box_event ?hg (N := 1) ?hd (cs := #[.string a0_0, .int .i64 a0_1, .int .i64 a0_2, .slice A0_3 l0_3.length c0_3]) (t := 24) ?hr ?_; (case hd => rfl); (case hg => rfl); (case hr => first | (go_simp; done) | (go_simp; rfl)); intro gb255 hg w17 hbox hb; have n0_ := Aside0.mk (below_step (by repeat (first | (with_reducible first | exact HB.out | apply bA | apply bN | apply bD) | exact HB.out)) hb); have n1_ := Aside0.mk (hbox); have n2_ := Aside0.mk ((by rw [hg]; exact (below_size (by repeat (first | (with_reducible first | exact HB.out | apply bA | apply bN | apply bD) | exact HB.out))) : w.heap.size ≤ gb255)); have n3_ := Aside0.mk ((by rw [hg]; exact (below_size (by repeat (first | (with_reducible first | exact HB.out | apply bA | apply bN | apply bD) | exact HB.out))) : w.heap.size ≤ gb255)); clear HB; have HB := n0_; have BK255 := n1_; have GW255 := n2_; have GE255 := n3_; clear n0_ n1_ n2_ n3_; clear hb hbox hg; have hcz18_0 : w17.cell? ⟨gb255, 0, none⟩ = some (.string a0_0) := (bC BK255.out 0).trans rfl; have hcz18_1 : w17.cell? ⟨gb255, 1, none⟩ = some (.int .i64 a0_1) := (bC BK255.out 1).trans rfl; have hcz18_2 : w17.cell? ⟨gb255, 2, none⟩ = some (.int .i64 a0_2) := (bC BK255.out 2).trans rfl; have hcz18_3 : w17.cell? ⟨gb255, 3, none⟩ = some (.slice A0_3 l0_3.length c0_3) := (bC BK255.out 3).trans rfl; have hfz18_0 := bZ BK255.out 0; have hfz18_1 := bZ BK255.out 1; have hfz18_2 := bZ BK255.out 2; have hfz18_3 := bZ BK255.out 3) | (go_at_call 11; (with_reducible refine (cubbyref07_Check.calls k a0_0 a0_1 a0_2 _ _ l0_3 t256 _ ?side1 ?side2 A2.out).mono ?_); (case side1 => repeat (first | exact (Kd.C_below HR0_3.out HB.out) | (with_reducible refine Kd.C_alloc ?_ _) | (with_reducible refine Kd.C_drewN ?_ _) | (with_reducible refine Kd.C_drew ?_))); (case side2 => exact HC0_3.out); rintro e w19 ⟨rfl, hb⟩; have n0_ := Aside0.mk (blk_below (g := gb255) (o := .cells #[.string a0_0, .int .i64 a0_1, .int .i64 a0_2, .slice A0_3 l0_3.length c0_3] 24 (0, 0)) (by (with_reducible repeat (first | refine kN ?_ _ | refine blk_drew ?_ | refine kA ?_ _)); exact BK255.out) hb); have n1_ := Aside0.mk (below_step (by repeat (first | (with_reducible first | exact HB.out | apply bA | apply bN | apply bD | refine bS ?_ GE255.out) | exact HB.out)) hb); clear BK255; clear HB; have BK255 := n0_; have HB := n1_; clear n0_ n1_; (try clear hb); (try clear hb2); (try clear hk); (try clear hi); (try clear A2))); try go_wp2_with (first | ((with_reducible refine gate_dst (N := 1) rfl ?_); refine box_event ?hg (N := 1) ?hd (cs := #[.string a0_0, .int .i64 a0_1, .int .i64 a0_2, .slice A0_3 l0_3.length c0_3]) (t := 24) ?hr ?_; (case hd => rfl); (case hg => rfl); (case hr => first | (go_simp; done) | (go_simp; rfl)); intro gb255 hg w17 hbox hb; have n0_ := Aside0.mk (below_step (by repeat (first | (with_reducible first | exact HB.out | apply bA | apply bN | apply bD) | exact HB.out)) hb); have n1_ := Aside0.mk (hbox); have n2_ := Aside0.mk ((by rw [hg]; exact (below_size (by repeat (first | (with_reducible first | exact HB.out | apply bA | apply bN | apply bD) | exact HB.out))) : w.heap.size ≤ gb255)); have n3_ := Aside0.mk ((by rw [hg]; exact (below_size (by repeat (first | (with_reducible first | exact HB.out | apply bA | apply bN | apply bD) | exact HB.out))) : w.heap.size ≤ gb255)); clear HB; have HB := n0_; have BK255 := n1_; have GW255 := n2_; have GE255 := n3_; clear n0_ n1_ n2_ n3_; clear hb hbox hg; have hcz18_0 : w17.cell? ⟨gb255, 0, none⟩ = some (.string a0_0) := (bC BK255.out 0).trans rfl; have hcz18_1 : w17.cell? ⟨gb255, 1, none⟩ = some (.int .i64 a0_1) := (bC BK255.out 1).trans rfl; have hcz18_2 : w17.cell? ⟨gb255, 2, none⟩ = some (.int .i64 a0_2) := (bC BK255.out 2).trans rfl; have hcz18_3 : w17.cell? ⟨gb255, 3, none⟩ = some (.slice A0_3 l0_3.length c0_3) := (bC BK255.out 3).trans rfl; have hfz18_0 := bZ BK255.out 0; have hfz18_1 := bZ BK255.out 1; have hfz18_2 := bZ BK255.out 2; have hfz18_3 := bZ BK255.out 3) | (go_at_call 11; (with_reducible refine (cubbyref07_Check.calls k a0_0 a0_1 a0_2 _ _ l0_3 t256 _ ?side1 ?side2 A2.out).mono ?_); (case side1 => repeat (first | exact (Kd.C_below HR0_3.out HB.out) | (with_reducible refine Kd.C_alloc ?_ _) | (with_reducible refine Kd.C_drewN ?_ _) | (with_reducible refine Kd.C_drew ?_))); (case side2 => exact HC0_3.out); rintro e w19 ⟨rfl, hb⟩; have n0_ := Aside0.mk (blk_below (g := gb255) (o := .cells #[.string a0_0, .int .i64 a0_1, .int .i64 a0_2, .slice A0_3 l0_3.length c0_3] 24 (0, 0)) (by (with_reducible repeat (first | refine kN ?_ _ | refine blk_drew ?_ | refine kA ?_ _)); exact BK255.out) hb); have n1_ := Aside0.mk (below_step (by repeat (first | (with_reducible first | exact HB.out | apply bA | apply bN | apply bD | refine bS ?_ GE255.out) | exact HB.out)) hb); clear BK255; clear HB; have BK255 := n0_; have HB := n1_; clear n0_ n1_; (try clear hb); (try clear hb2); (try clear hk); (try clear hi); (try clear A2))))
  go_ret
  exact ⟨by first | rfl | (simp [errW_none, errW_some] <;> rfl) | (simp [*, errW_none, errW_some] <;> rfl), by repeat (first | (with_reducible first | exact HB.out | apply bA | apply bN | apply bD | refine bS ?_ GE255.out) | exact HB.out)⟩
end Go.Proofs.YtoilapjkgligfaaDoor.P
