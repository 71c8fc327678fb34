import Derived.Test.YtoilapjkgligfaaDoorKP
import Derived.Test.YtoilapjkgligfaaDoorKa1
import Derived.Test.YtoilapjkgligfaaDoorKGTrimLay
import Derived.Test.YtoilapjkgligfaaDoorKa0
namespace Go.Proofs.YtoilapjkgligfaaDoor.P
set_option linter.unusedVariables false
open Go.RowKit Go.Proofs.YtoilapjkgligfaaDoorW.PrintWords Go.Proofs.YtoilapjkgligfaaDoorW.PrintLast Go.Proofs.YtoilapjkgligfaaDoorW.PrintMore

def strings_Trim.f (a0 a1 : ByteArray) : Option ByteArray :=
  if a0.size ≤ 9223372036854775807 then if a1.size < 4294967281 then if (∀ b ∈ a1.data.toList, b.toNat < 128) then some ⟨(Lib.trimS a0.data.toList a1.data.toList).toArray⟩ else none else none else none

theorem strings_Trim.calls (a0 a1 : ByteArray) (r : ByteArray) (w : World) (h : strings_Trim.f a0 a1 = some r) :
    Calls Tryd.prog 106 #[.string a0, .string a1] w fun e w' => e = .returned (.string r) ∧ Below w.heap.size w w' := by
  unfold strings_Trim.f at h
  split at h
  · split at h
    · split at h
      · rename_i h1 h2 h3
        obtain rfl := Option.some.inj h
        exact Go.Proofs.Any.strings_Trim_laid lays160 (by kernel_rfl) a0 a1 w h1 h2 (fun j b hb => h3 b (List.mem_of_getElem? hb))
      · simp at h
    · simp at h
  · simp at h
end Go.Proofs.YtoilapjkgligfaaDoor.P
namespace Go.Proofs.YtoilapjkgligfaaDoor.P
open Go.RowKit Go.Proofs.YtoilapjkgligfaaDoorW.PrintWords Go.Proofs.YtoilapjkgligfaaDoorW.PrintLast Go.Proofs.YtoilapjkgligfaaDoorW.PrintMore
attribute [local go_sem] max2_int min2_int max_two min_two max_three min_three max_four min_four 
set_option linter.unusedVariables false
set_option linter.unusedSimpArgs false
def ir_Name.f (a0 : ByteArray) : Option (Bool) := if a0.toList = ([] : List UInt8) then (some false) else (if (a0.size : Int) > 12 then (some false) else (if 0 < (a0.size : Int) then (if (bt a0 0) < 97 then (some false) else ((strings_Trim.f a0 (⟨#[97, 98, 99, 100, 101, 102, 103, 104, 105, 106, 107, 108, 109, 110, 111, 112, 113, 114, 115, 116, 117, 118, 119, 120, 121, 122, 48, 49, 50, 51, 52, 53, 54, 55, 56, 57]⟩ : ByteArray)).bind fun t327 => (some (t327.toList == ([] : List UInt8))))) else (none)))
set_option maxHeartbeats 8000000 in
set_option maxRecDepth 100000 in
theorem ir_Name.calls (a0 : ByteArray) (r : Bool) (w : World) (h : ir_Name.f a0 = some r) :
  Calls Tryd.prog 63 #[.string a0] w fun e w' => e = .returned (.bool r) ∧ Below w.heap.size w w' := by
 have HB := Aside0.mk (Below.refl w.heap.size w)
 have H : (if a0.toList = ([] : List UInt8) then (some false) else (if (a0.size : Int) > 12 then (some false) else (if 0 < (a0.size : Int) then (if (bt a0 0) < 97 then (some false) else ((strings_Trim.f a0 (⟨#[97, 98, 99, 100, 101, 102, 103, 104, 105, 106, 107, 108, 109, 110, 111, 112, 113, 114, 115, 116, 117, 118, 119, 120, 121, 122, 48, 49, 50, 51, 52, 53, 54, 55, 56, 57]⟩ : ByteArray)).bind fun t327 => (some (t327.toList == ([] : List UInt8))))) else (none)))) = some r := h
 clear h
 by_cases c2 : a0.toList = ([] : List UInt8)
 ·rw [if_pos c2] at H
  have c2b0 : (a0.toList == ([] : List UInt8)) = true := beq_iff_eq.mpr c2
  have c2b1 : (a0.toList != ([] : List UInt8)) = false := bne_eq_false_iff_eq.mpr c2
  clear c2
  obtain rfl := Option.some.inj H
  go_enter Tryd.func63, Tryd.ntmps63
  go_wp2
  go_ret
  exact ⟨by first | rfl | (simp [errW_none, errW_some] <;> rfl) | (simp [*, errW_none, errW_some] <;> rfl), by repeat (first | (with_reducible first | exact HB.out | apply bA | apply bN | apply bD) | exact HB.out)⟩
 ·rw [if_neg c2] at H
  have c2b0 : (a0.toList == ([] : List UInt8)) = false := beq_eq_false_iff_ne.mpr c2
  have c2b1 : (a0.toList != ([] : List UInt8)) = true := bne_iff_ne.mpr c2
  by_cases c3 : (a0.size : Int) > 12
  ·rw [if_pos c3] at H
   have c3b0 : decide (12 < (a0.size : Int)) = true := decide_eq_true c3
   have c3b1 : decide (12 < a0.size) = true := decide_eq_true (by omega)
   clear c3
   obtain rfl := Option.some.inj H
   go_enter Tryd.func63, Tryd.ntmps63
   go_wp2
   go_ret
   exact ⟨by first | rfl | (simp [errW_none, errW_some] <;> rfl) | (simp [*, errW_none, errW_some] <;> rfl), by repeat (first | (with_reducible first | exact HB.out | apply bA | apply bN | apply bD) | exact HB.out)⟩
  ·rw [if_neg c3] at H
   have c3b0 : decide (12 < (a0.size : Int)) = false := decide_eq_false c3
   have c3b1 : decide (12 < a0.size) = false := decide_eq_false (by omega)
   clear c3
   by_cases c4 : 0 < (a0.size : Int)
   ·rw [if_pos c4] at H
    have c4b0 : decide (0 < (a0.size : Int)) = true := decide_eq_true c4
    have c4b1 : decide (0 < a0.size) = true := decide_eq_true (by omega)
    clear c4
    by_cases c6 : (bt a0 0) < 97
    ·rw [if_pos c6] at H
     have c6b0 : decide ((bt a0 0) < 97) = true := decide_eq_true c6
     clear c6
     obtain rfl := Option.some.inj H
     have p5 : 0 ≤ (0 : Int) := (by omega)
     have q5 : 0 < a0.size := (by have : (0 : Int) < (a0.size : Int) := oD (by first | (with_reducible assumption) | assumption); omega)
     have hx5 : ∀ h : 0 < a0.size, ((a0[0]'h).toNat : Int) = bt a0 0 := bt_at a0 0
     clear p5
     have qi5 : (0 < (a0.size : Int)) = True := eq_true (oD (by first | (with_reducible assumption) | assumption))
     replace q5 := eq_true q5
     go_enter Tryd.func63, Tryd.ntmps63
     go_wp2
     go_ret
     exact ⟨by first | rfl | (simp [errW_none, errW_some] <;> rfl) | (simp [*, errW_none, errW_some] <;> rfl), by repeat (first | (with_reducible first | exact HB.out | apply bA | apply bN | apply bD) | exact HB.out)⟩
    ·rw [if_neg c6] at H
     have c6b0 : decide ((bt a0 0) < 97) = false := decide_eq_false c6
     clear c6
     replace H := Option.bind_eq_some_iff.mp H
     obtain ⟨t327, A70, H⟩ := H
     replace H : (some (t327.toList == ([] : List UInt8))) = some r := H
     have A7 := Aside0.mk A70
     clear A70
     obtain rfl := Option.some.inj H
     have p5 : 0 ≤ (0 : Int) := (by omega)
     have q5 : 0 < a0.size := (by have : (0 : Int) < (a0.size : Int) := oD (by first | (with_reducible assumption) | assumption); omega)
     have hx5 : ∀ h : 0 < a0.size, ((a0[0]'h).toNat : Int) = bt a0 0 := bt_at a0 0
     clear p5
     have qi5 : (0 < (a0.size : Int)) = True := eq_true (oD (by first | (with_reducible assumption) | assumption))
     replace q5 := eq_true q5
     go_enter Tryd.func63, Tryd.ntmps63
     go_wp2_with (first | ((with_reducible refine gate_callee (f := 106) rfl ?_); refine goesL_ (some 16) rfl rfl Tryd.func106 (by kernel_rfl) rfl #[.string a0, .string (⟨#[97, 98, 99, 100, 101, 102, 103, 104, 105, 106, 107, 108, 109, 110, 111, 112, 113, 114, 115, 116, 117, 118, 119, 120, 121, 122, 48, 49, 50, 51, 52, 53, 54, 55, 56, 57]⟩ : ByteArray)] rfl (by (try simp only [List.map_toArray, List.map_cons, List.map_nil]); first | done | rfl | (simp only [List.length_drop, List.length_take]; rfl)) ?_; (with_reducible refine (strings_Trim.calls a0 (⟨#[97, 98, 99, 100, 101, 102, 103, 104, 105, 106, 107, 108, 109, 110, 111, 112, 113, 114, 115, 116, 117, 118, 119, 120, 121, 122, 48, 49, 50, 51, 52, 53, 54, 55, 56, 57]⟩ : ByteArray) t327 _ A7.out).mono ?_); rintro e w8 ⟨rfl, hb⟩; refine ⟨_, rfl, ?_⟩; have n0_ := Aside0.mk (below_step (by repeat (first | (with_reducible first | exact HB.out | apply bA | apply bN | apply bD) | exact HB.out)) hb); clear HB; have HB := n0_; clear n0_; (try clear hb); (try clear hb2); (try clear hk); (try clear hi)))
     go_ret
     exact ⟨by first | rfl | (simp [errW_none, errW_some] <;> rfl) | (simp [*, errW_none, errW_some] <;> rfl), by repeat (first | (with_reducible first | exact HB.out | apply bA | apply bN | apply bD) | exact HB.out)⟩
   ·rw [if_neg c4] at H
    exact absurd H (by simp)
end Go.Proofs.YtoilapjkgligfaaDoor.P
namespace Go.Proofs.YtoilapjkgligfaaDoor.P
set_option linter.unusedVariables false
open Go.RowKit Go.Proofs.YtoilapjkgligfaaDoorW.PrintWords Go.Proofs.YtoilapjkgligfaaDoorW.PrintLast Go.Proofs.YtoilapjkgligfaaDoorW.PrintMore

def oddB (regs n : Int) : Bool := decide (n < 0) || decide (regs ≤ n)

set_option maxHeartbeats 400000 in
theorem ir_one_odd.calls (n p regs : Int) (nm : ByteArray) (V : Value) (g : Nat) (w : World) (hb : w.heap[g]? = some (.cells #[.string nm, .int .i64 p, .int .i64 regs, V] 24 (0, 0))) :
    Calls Tryd.prog 109 #[.int .i64 n, .pointer (some ⟨g, 0, none⟩)] w fun e w' => e = .returned (.bool (oddB regs n)) ∧ Drawn0 w w' := by
  have hu := Tryd.underlying24
  have c2 : w.cell? ⟨g, 2, none⟩ = some (.int .i64 regs) := (blk_cell hb 2).trans rfl
  have HE : Aside0 (oddB regs n = (decide (n < 0) || decide (regs ≤ n))) := ⟨rfl⟩
  clear hb
  by_cases h1 : n < 0
  · have t1 : decide (n < 0) = true := decide_eq_true h1
    clear h1
    go_enter Tryd.func109, Tryd.ntmps109
    go_wp2
    go_ret
    exact ⟨by rw [HE.out]; simp [t1], Drawn0.refl _⟩
  · have t1 : decide (n < 0) = false := decide_eq_false h1
    clear h1
    go_enter Tryd.func109, Tryd.ntmps109
    go_wp2
    go_ret
    exact ⟨by rw [HE.out]; simp [t1], Drawn0.refl _⟩

set_option maxHeartbeats 1000000 in
theorem slices_IndexFunc.odd_calls (p regs : Int) (nm : ByteArray) (V : Value) (g : Nat) (A : Option Addr) (c : Nat) (l : List Int) (w : World) (hr : Kd.C (Kd.int .i64) w A l.length l) (hb : w.heap[g]? = some (.cells #[.string nm, .int .i64 p, .int .i64 regs, V] 24 (0, 0))) :
    Calls Tryd.prog 140 #[.slice A l.length c, .func (.func 109) #[] #[.pointer (some ⟨g, 0, none⟩)]] w fun e w' => (∃ i : Int, e = .returned (.int .i64 i) ∧ decide (0 ≤ i) = l.any (oddB regs)) ∧ Drawn0 w w' := by
  have HR := Aside0.mk hr
  have BK := Aside0.mk hb
  have hlen := hr.2.1
  have HD := Aside0.mk (Drawn0.refl w)
  clear hr hb
  go_enter Tryd.func140, Tryd.ntmps140
  go_wp2
  go_loopw [8] (fun v8 wr => ∃ (k : Nat), v8 = .int .i64 k ∧ k ≤ l.length ∧ Aside0 (∀ j, j < k → oddB regs (rd l j) = false) ∧ Aside0 (Drawn0 w wr)) (fun v8 _ => l.length - (intOf v8).toNat)
  case atStart => exact ⟨0, rfl, Nat.zero_le _, ⟨fun j hj => by omega⟩, HD⟩
  case round =>
    clear HD
    obtain ⟨k, rfl, hk, HN, HD⟩ := hrel
    by_cases hlt : k < l.length
    · obtain ⟨ad, e, hx⟩ := Kd.at_int HR.out k (by omega) (by omega)
      cases e
      rw [Int.toNat_natCast] at hx
      replace hx := (HD.out.below.cell (World.block_lt_of_cell? w _ hx)).trans hx
      have BK1 := Aside0.mk (blk_below BK.out HD.out.below)
      cases hq : oddB regs (rd l k) with
      | true =>
        have HQ := Aside0.mk hq
        clear hq
        go_wp2_with (go_at_call 109; refine (ir_one_odd.calls (rd l k) p regs nm V g _ BK1.out).mono ?_; rintro e w' ⟨rfl, ⟨nd, rfl⟩⟩; rw [HQ.out])
        go_ret
        refine ⟨⟨k, rfl, ?_⟩, HD.out.step _⟩
        rw [decide_eq_true (by omega), eq_comm, List.any_eq_true]
        exact ⟨rd l k, by rw [rd, Int.toNat_natCast, List.getD_eq_getElem?_getD, List.getElem?_eq_getElem hlt]; exact List.getElem_mem hlt, HQ.out⟩
      | false =>
        have HQ := Aside0.mk hq
        clear hq
        go_wp2_with (go_at_call 109; refine (ir_one_odd.calls (rd l k) p regs nm V g _ BK1.out).mono ?_; rintro e w' ⟨rfl, ⟨nd, rfl⟩⟩; rw [HQ.out])
        go_roundw
        case rel => exact ⟨k + 1, by go_num, by omega, ⟨fun j hj => by
          rcases Nat.lt_or_ge j k with h | h
          · exact HN.out j h
          · obtain rfl : j = k := by omega
            exact HQ.out⟩, ⟨HD.out.step _⟩⟩
        case measure => simp [intOf]; omega
    · go_wp2
      go_ret
      refine ⟨⟨-1, rfl, ?_⟩, HD.out⟩
      rw [decide_eq_false (by omega), eq_comm, List.any_eq_false]
      intro x hx
      obtain ⟨j, hj, rfl⟩ := List.getElem_of_mem hx
      have := HN.out j (by omega)
      rw [rd, Int.toNat_natCast, List.getD_eq_getElem?_getD, List.getElem?_eq_getElem hj] at this
      simpa using this

set_option maxHeartbeats 400000 in
theorem slices_ContainsFunc.odd_calls (p regs : Int) (nm : ByteArray) (V : Value) (g : Nat) (A : Option Addr) (c : Nat) (l : List Int) (w : World) (hr : Kd.C (Kd.int .i64) w A l.length l) (hb : w.heap[g]? = some (.cells #[.string nm, .int .i64 p, .int .i64 regs, V] 24 (0, 0))) :
    Calls Tryd.prog 110 #[.slice A l.length c, .func (.func 109) #[] #[.pointer (some ⟨g, 0, none⟩)]] w fun e w' => e = .returned (.bool (l.any (oddB regs))) ∧ Drawn0 w w' := by
  have HR := Aside0.mk hr
  have BK := Aside0.mk hb
  clear hr hb
  go_enter Tryd.func110, Tryd.ntmps110
  go_wp2_with (go_at_call 140; refine (slices_IndexFunc.odd_calls p regs nm V g _ _ l _ HR.out BK.out).mono ?_; rintro e w' ⟨⟨i, rfl, hi⟩, ⟨nd, rfl⟩⟩; have HI := Aside0.mk hi; clear hi)
  go_ret
  exact ⟨by rw [← HI.out]; rfl, Drawn0.step (Drawn0.refl _) _⟩
end Go.Proofs.YtoilapjkgligfaaDoor.P
namespace Go.Proofs.YtoilapjkgligfaaDoor.P
open Go.RowKit Go.Proofs.YtoilapjkgligfaaDoorW.PrintWords Go.Proofs.YtoilapjkgligfaaDoorW.PrintLast Go.Proofs.YtoilapjkgligfaaDoorW.PrintMore
attribute [local go_sem] max2_int min2_int max_two min_two max_three min_three max_four min_four 
set_option linter.unusedVariables false
set_option linter.unusedSimpArgs false
def ir_Targets.f (a0_0 : Int) (a0_1 : Int) (a0_2 : Int) (a0_3 : Int) (a0_4 : ByteArray) (l0_5 : List Int) : Option (List Int) := if a0_0 = 12 then (some (([a0_2] : List Int))) else (if a0_0 = 13 then (some (([a0_3, a0_1] : List Int))) else (some ([] : List Int)))
set_option maxHeartbeats 8000000 in
set_option maxRecDepth 100000 in
theorem ir_Targets.calls (a0_0 : Int) (a0_1 : Int) (a0_2 : Int) (a0_3 : Int) (a0_4 : ByteArray) (A0_5 : Option Addr) (c0_5 : Nat) (l0_5 : List Int) (r : List Int) (w : World) (hr0_5 : Kd.C (Kd.int .i64) w A0_5 l0_5.length l0_5) (hc0_5 : l0_5.length ≤ c0_5) (h : ir_Targets.f a0_0 a0_1 a0_2 a0_3 a0_4 l0_5 = some r) :
  Calls Tryd.prog 111 #[.agg #[.int .i64 a0_0, .int .i64 a0_1, .int .i64 a0_2, .int .i64 a0_3, .string a0_4, .slice A0_5 l0_5.length c0_5]] w fun e w' => ∃ v0_ : Value, e = .returned (v0_) ∧ Kd.R (Kd.int .i64) 3 w' w.heap.size (fun _ => True) v0_ r ∧ Below w.heap.size w w' := by
 have hu32 := Tryd.underlying32
 have HR0_5 := Aside0.mk hr0_5
 have HC0_5 := Aside0.mk hc0_5
 clear hr0_5 hc0_5
 have HB := Aside0.mk (Below.refl w.heap.size w)
 have H : (if a0_0 = 12 then (some (([a0_2] : List Int))) else (if a0_0 = 13 then (some (([a0_3, a0_1] : List Int))) else (some ([] : List Int)))) = some r := h
 clear h
 by_cases c2 : a0_0 = 12
 ·rw [if_pos c2] at H
  have c2b0 : (a0_0 == 12) = true := beq_iff_eq.mpr c2
  have c2b1 : (a0_0 != 12) = false := bne_eq_false_iff_eq.mpr c2
  clear c2
  obtain ⟨y478, hy478⟩ : ∃ y_ : List Int, y_ = (([a0_2] : List Int)) := ⟨_, rfl⟩
  replace H : (some y478) = some r := by first | (rw [hy478]; with_reducible exact H) | (have H2_ := (Option.bind_some _ _).symm.trans H; rw [hy478]; with_reducible exact H2_) | (have H2_ := (Option.bind_some _ _).symm.trans H; with_reducible exact H2_) | with_reducible exact H | (rw [hy478]; exact H) | exact H
  have Ny478 := Aside0.mk hy478
  clear hy478
  obtain rfl := Option.some.inj H
  go_enter Tryd.func111, Tryd.ntmps111
  go_wp2_with (first | ((with_reducible refine gate_dst (N := 1) rfl ?_); refine box_event ?hg (N := 1) ?hd (cs := #[.int .i64 a0_0, .int .i64 a0_1, .int .i64 a0_2, .int .i64 a0_3, .string a0_4, .slice A0_5 l0_5.length c0_5]) (t := 32) ?hr ?_; (case hd => rfl); (case hg => rfl); (case hr => first | (go_simp; done) | (go_simp; rfl)); intro gb477 hg w3 hbox hb; have n0_ := Aside0.mk (below_step (by repeat (first | (with_reducible first | exact HB.out | apply bA | apply bN | apply bD) | exact HB.out)) hb); have n1_ := Aside0.mk (hbox); have n2_ := Aside0.mk ((by rw [hg]; exact (below_size (by repeat (first | (with_reducible first | exact HB.out | apply bA | apply bN | apply bD) | exact HB.out))) : w.heap.size ≤ gb477)); have n3_ := Aside0.mk ((by rw [hg]; exact (below_size (by repeat (first | (with_reducible first | exact HB.out | apply bA | apply bN | apply bD) | exact HB.out))) : w.heap.size ≤ gb477)); clear HB; have HB := n0_; have BK477 := n1_; have GW477 := n2_; have GE477 := n3_; clear n0_ n1_ n2_ n3_; clear hb hbox hg; have hcz4_0 : w3.cell? ⟨gb477, 0, none⟩ = some (.int .i64 a0_0) := (bC BK477.out 0).trans rfl; have hcz4_1 : w3.cell? ⟨gb477, 1, none⟩ = some (.int .i64 a0_1) := (bC BK477.out 1).trans rfl; have hcz4_2 : w3.cell? ⟨gb477, 2, none⟩ = some (.int .i64 a0_2) := (bC BK477.out 2).trans rfl; have hcz4_3 : w3.cell? ⟨gb477, 3, none⟩ = some (.int .i64 a0_3) := (bC BK477.out 3).trans rfl; have hcz4_4 : w3.cell? ⟨gb477, 4, none⟩ = some (.string a0_4) := (bC BK477.out 4).trans rfl; have hcz4_5 : w3.cell? ⟨gb477, 5, none⟩ = some (.slice A0_5 l0_5.length c0_5) := (bC BK477.out 5).trans rfl; have hfz4_0 := bZ BK477.out 0; have hfz4_1 := bZ BK477.out 1; have hfz4_2 := bZ BK477.out 2; have hfz4_3 := bZ BK477.out 3; have hfz4_4 := bZ BK477.out 4; have hfz4_5 := bZ BK477.out 5) | ((with_reducible refine gate_dst (N := 9) rfl ?_); refine Kd.R_lit (Kd.int .i64) _ 3 ?hg (N := 9) ?hd (xs := ([a0_2] : List Int)) (inner := [.int .i64 a0_2]) (ok := fun _ => True) (okp := fun _ => True) ?hr ?hp (fun _ hk => hk) trivial (Below.refl _ _) (Nat.le_refl _) (by simp) ?_; (case hd => rfl); (case hg => rfl); (case hr => first | (go_simp; done) | (go_simp; rfl)); (case hp => exact (Reps.one (show Kd.M (Kd.int .i64) _ _ _ a0_2 [.int .i64 a0_2] from rfl) (Reps.none _ _))); intro v479 w5 ho6 hb hg_ hnew_; clear hg_ hnew_; (first | rw [← Ny478.out] at ho6 | (simp only [Int.reduceToNat] at ho6; rw [← Ny478.out] at ho6)); have n0_ := Aside0.mk (Kd.R_lower ho6 (below_size (by repeat (first | (with_reducible first | exact HB.out | apply bA | apply bN | apply bD | refine bS ?_ GE477.out) | exact HB.out)))); have n1_ := Aside0.mk (blk_below (g := gb477) (o := .cells #[.int .i64 a0_0, .int .i64 a0_1, .int .i64 a0_2, .int .i64 a0_3, .string a0_4, .slice A0_5 l0_5.length c0_5] 32 (0, 0)) (by (with_reducible repeat (first | refine kN ?_ _ | refine blk_drew ?_ | refine kA ?_ _)); exact BK477.out) hb); have n2_ := Aside0.mk (below_step (by repeat (first | (with_reducible first | exact HB.out | apply bA | apply bN | apply bD | refine bS ?_ GE477.out) | exact HB.out)) hb); clear BK477; clear HB; have HO480 := n0_; have BK477 := n1_; have HB := n2_; clear n0_ n1_ n2_; clear hb ho6))
  go_ret
  exact ⟨_, by first | rfl | (simp [errW_none, errW_some] <;> rfl) | (simp [*, errW_none, errW_some] <;> rfl), by (with_reducible repeat (first | apply Kd.R_alloc | apply Kd.R_drewN | apply Kd.R_drew)); exact HO480.out, by repeat (first | (with_reducible first | exact HB.out | apply bA | apply bN | apply bD | refine bS ?_ GE477.out) | exact HB.out)⟩
 ·rw [if_neg c2] at H
  have c2b0 : (a0_0 == 12) = false := beq_eq_false_iff_ne.mpr c2
  have c2b1 : (a0_0 != 12) = true := bne_iff_ne.mpr c2
  by_cases c7 : a0_0 = 13
  ·rw [if_pos c7] at H
   have c7b0 : (a0_0 == 13) = true := beq_iff_eq.mpr c7
   have c7b1 : (a0_0 != 13) = false := bne_eq_false_iff_eq.mpr c7
   clear c7
   obtain ⟨y481, hy481⟩ : ∃ y_ : List Int, y_ = (([a0_3, a0_1] : List Int)) := ⟨_, rfl⟩
   replace H : (some y481) = some r := by first | (rw [hy481]; with_reducible exact H) | (have H2_ := (Option.bind_some _ _).symm.trans H; rw [hy481]; with_reducible exact H2_) | (have H2_ := (Option.bind_some _ _).symm.trans H; with_reducible exact H2_) | with_reducible exact H | (rw [hy481]; exact H) | exact H
   have Ny481 := Aside0.mk hy481
   clear hy481
   obtain rfl := Option.some.inj H
   go_enter Tryd.func111, Tryd.ntmps111
   go_wp2_with (first | ((with_reducible refine gate_dst (N := 1) rfl ?_); refine box_event ?hg (N := 1) ?hd (cs := #[.int .i64 a0_0, .int .i64 a0_1, .int .i64 a0_2, .int .i64 a0_3, .string a0_4, .slice A0_5 l0_5.length c0_5]) (t := 32) ?hr ?_; (case hd => rfl); (case hg => rfl); (case hr => first | (go_simp; done) | (go_simp; rfl)); intro gb477 hg w8 hbox hb; have n0_ := Aside0.mk (below_step (by repeat (first | (with_reducible first | exact HB.out | apply bA | apply bN | apply bD) | exact HB.out)) hb); have n1_ := Aside0.mk (hbox); have n2_ := Aside0.mk ((by rw [hg]; exact (below_size (by repeat (first | (with_reducible first | exact HB.out | apply bA | apply bN | apply bD) | exact HB.out))) : w.heap.size ≤ gb477)); have n3_ := Aside0.mk ((by rw [hg]; exact (below_size (by repeat (first | (with_reducible first | exact HB.out | apply bA | apply bN | apply bD) | exact HB.out))) : w.heap.size ≤ gb477)); clear HB; have HB := n0_; have BK477 := n1_; have GW477 := n2_; have GE477 := n3_; clear n0_ n1_ n2_ n3_; clear hb hbox hg; have hcz9_0 : w8.cell? ⟨gb477, 0, none⟩ = some (.int .i64 a0_0) := (bC BK477.out 0).trans rfl; have hcz9_1 : w8.cell? ⟨gb477, 1, none⟩ = some (.int .i64 a0_1) := (bC BK477.out 1).trans rfl; have hcz9_2 : w8.cell? ⟨gb477, 2, none⟩ = some (.int .i64 a0_2) := (bC BK477.out 2).trans rfl; have hcz9_3 : w8.cell? ⟨gb477, 3, none⟩ = some (.int .i64 a0_3) := (bC BK477.out 3).trans rfl; have hcz9_4 : w8.cell? ⟨gb477, 4, none⟩ = some (.string a0_4) := (bC BK477.out 4).trans rfl; have hcz9_5 : w8.cell? ⟨gb477, 5, none⟩ = some (.slice A0_5 l0_5.length c0_5) := (bC BK477.out 5).trans rfl; have hfz9_0 := bZ BK477.out 0; have hfz9_1 := bZ BK477.out 1; have hfz9_2 := bZ BK477.out 2; have hfz9_3 := bZ BK477.out 3; have hfz9_4 := bZ BK477.out 4; have hfz9_5 := bZ BK477.out 5) | ((with_reducible refine gate_dst (N := 16) rfl ?_); refine Kd.R_lit (Kd.int .i64) _ 3 ?hg (N := 16) ?hd (xs := ([a0_3, a0_1] : List Int)) (inner := [.int .i64 a0_3, .int .i64 a0_1]) (ok := fun _ => True) (okp := fun _ => True) ?hr ?hp (fun _ hk => hk) trivial (Below.refl _ _) (Nat.le_refl _) (by simp) ?_; (case hd => rfl); (case hg => rfl); (case hr => first | (go_simp; done) | (go_simp; rfl)); (case hp => exact (Reps.one (show Kd.M (Kd.int .i64) _ _ _ a0_3 [.int .i64 a0_3] from rfl) (Reps.one (show Kd.M (Kd.int .i64) _ _ _ a0_1 [.int .i64 a0_1] from rfl) (Reps.none _ _)))); intro v482 w10 ho11 hb hg_ hnew_; clear hg_ hnew_; (first | rw [← Ny481.out] at ho11 | (simp only [Int.reduceToNat] at ho11; rw [← Ny481.out] at ho11)); have n0_ := Aside0.mk (Kd.R_lower ho11 (below_size (by repeat (first | (with_reducible first | exact HB.out | apply bA | apply bN | apply bD | refine bS ?_ GE477.out) | exact HB.out)))); have n1_ := Aside0.mk (blk_below (g := gb477) (o := .cells #[.int .i64 a0_0, .int .i64 a0_1, .int .i64 a0_2, .int .i64 a0_3, .string a0_4, .slice A0_5 l0_5.length c0_5] 32 (0, 0)) (by (with_reducible repeat (first | refine kN ?_ _ | refine blk_drew ?_ | refine kA ?_ _)); exact BK477.out) hb); have n2_ := Aside0.mk (below_step (by repeat (first | (with_reducible first | exact HB.out | apply bA | apply bN | apply bD | refine bS ?_ GE477.out) | exact HB.out)) hb); clear BK477; clear HB; have HO483 := n0_; have BK477 := n1_; have HB := n2_; clear n0_ n1_ n2_; clear hb ho11))
   go_ret
   exact ⟨_, by first | rfl | (simp [errW_none, errW_some] <;> rfl) | (simp [*, errW_none, errW_some] <;> rfl), by (with_reducible repeat (first | apply Kd.R_alloc | apply Kd.R_drewN | apply Kd.R_drew)); exact HO483.out, by repeat (first | (with_reducible first | exact HB.out | apply bA | apply bN | apply bD | refine bS ?_ GE477.out) | exact HB.out)⟩
  ·rw [if_neg c7] at H
   have c7b0 : (a0_0 == 13) = false := beq_eq_false_iff_ne.mpr c7
   have c7b1 : (a0_0 != 13) = true := bne_iff_ne.mpr c7
   obtain rfl := Option.some.inj H
   go_enter Tryd.func111, Tryd.ntmps111
   go_wp2_with (first | ((with_reducible refine gate_dst (N := 1) rfl ?_); refine box_event ?hg (N := 1) ?hd (cs := #[.int .i64 a0_0, .int .i64 a0_1, .int .i64 a0_2, .int .i64 a0_3, .string a0_4, .slice A0_5 l0_5.length c0_5]) (t := 32) ?hr ?_; (case hd => rfl); (case hg => rfl); (case hr => first | (go_simp; done) | (go_simp; rfl)); intro gb477 hg w12 hbox hb; have n0_ := Aside0.mk (below_step (by repeat (first | (with_reducible first | exact HB.out | apply bA | apply bN | apply bD) | exact HB.out)) hb); have n1_ := Aside0.mk (hbox); have n2_ := Aside0.mk ((by rw [hg]; exact (below_size (by repeat (first | (with_reducible first | exact HB.out | apply bA | apply bN | apply bD) | exact HB.out))) : w.heap.size ≤ gb477)); have n3_ := Aside0.mk ((by rw [hg]; exact (below_size (by repeat (first | (with_reducible first | exact HB.out | apply bA | apply bN | apply bD) | exact HB.out))) : w.heap.size ≤ gb477)); clear HB; have HB := n0_; have BK477 := n1_; have GW477 := n2_; have GE477 := n3_; clear n0_ n1_ n2_ n3_; clear hb hbox hg; have hcz13_0 : w12.cell? ⟨gb477, 0, none⟩ = some (.int .i64 a0_0) := (bC BK477.out 0).trans rfl; have hcz13_1 : w12.cell? ⟨gb477, 1, none⟩ = some (.int .i64 a0_1) := (bC BK477.out 1).trans rfl; have hcz13_2 : w12.cell? ⟨gb477, 2, none⟩ = some (.int .i64 a0_2) := (bC BK477.out 2).trans rfl; have hcz13_3 : w12.cell? ⟨gb477, 3, none⟩ = some (.int .i64 a0_3) := (bC BK477.out 3).trans rfl; have hcz13_4 : w12.cell? ⟨gb477, 4, none⟩ = some (.string a0_4) := (bC BK477.out 4).trans rfl; have hcz13_5 : w12.cell? ⟨gb477, 5, none⟩ = some (.slice A0_5 l0_5.length c0_5) := (bC BK477.out 5).trans rfl; have hfz13_0 := bZ BK477.out 0; have hfz13_1 := bZ BK477.out 1; have hfz13_2 := bZ BK477.out 2; have hfz13_3 := bZ BK477.out 3; have hfz13_4 := bZ BK477.out 4; have hfz13_5 := bZ BK477.out 5))
   go_ret
   exact ⟨_, by first | rfl | (simp [errW_none, errW_some] <;> rfl) | (simp [*, errW_none, errW_some] <;> rfl), by first | exact Kd.R_nil _ _ _ _ _ | exact Kd.N_nil _ _ _ _ _ | exact Kd.V_nil _ _ _ _ _ | exact Kd.Q_nil _ _ _ _ _ | exact Kd.S_nil _ _ _ _ _, by repeat (first | (with_reducible first | exact HB.out | apply bA | apply bN | apply bD | refine bS ?_ GE477.out) | exact HB.out)⟩
end Go.Proofs.YtoilapjkgligfaaDoor.P
namespace Go.Proofs.YtoilapjkgligfaaDoor.P
open Go.RowKit Go.Proofs.YtoilapjkgligfaaDoorW.PrintWords Go.Proofs.YtoilapjkgligfaaDoorW.PrintLast Go.Proofs.YtoilapjkgligfaaDoorW.PrintMore
attribute [local go_sem] max2_int min2_int max_two min_two max_three min_three max_four min_four 
set_option linter.unusedVariables false
set_option linter.unusedSimpArgs false
def ir_Last.f (a0 : Int) : Option (Bool) := if a0 ≥ 12 then (some (decide (a0 ≤ 14))) else (some false)
set_option maxHeartbeats 8000000 in
set_option maxRecDepth 100000 in
theorem ir_Last.calls (a0 : Int) (r : Bool) (w : World) (h : ir_Last.f a0 = some r) :
  Calls Tryd.prog 108 #[.int .i64 a0] w fun e w' => e = .returned (.bool r) ∧ Drawn0 w w' := by
 have H : (if a0 ≥ 12 then (some (decide (a0 ≤ 14))) else (some false)) = some r := h
 clear h
 by_cases c2 : a0 ≥ 12
 ·rw [if_pos c2] at H
  have c2b0 : decide (12 ≤ a0) = true := decide_eq_true c2
  clear c2
  obtain rfl := Option.some.inj H
  go_enter Tryd.func108, Tryd.ntmps108
  go_wp2
  go_ret
  exact ⟨by first | rfl | (simp; done) | (simp [*]; done), by repeat (first | exact Drawn0.refl _ | apply Drawn0.step)⟩
 ·rw [if_neg c2] at H
  have c2b0 : decide (12 ≤ a0) = false := decide_eq_false c2
  clear c2
  obtain rfl := Option.some.inj H
  go_enter Tryd.func108, Tryd.ntmps108
  go_wp2
  go_ret
  exact ⟨by first | rfl | (simp; done) | (simp [*]; done), by repeat (first | exact Drawn0.refl _ | apply Drawn0.step)⟩
end Go.Proofs.YtoilapjkgligfaaDoor.P
