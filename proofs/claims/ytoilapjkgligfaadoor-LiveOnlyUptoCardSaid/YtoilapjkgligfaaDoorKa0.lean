import Derived.Test.YtoilapjkgligfaaDoorKP
import Derived.WalkLawsBesides
import Derived.WalkSpells
import Derived.StillTailTactics
namespace Go.Proofs.YtoilapjkgligfaaDoor.P
open Go.RowKit Go.Proofs.YtoilapjkgligfaaDoorW.PrintWords Go.Proofs.YtoilapjkgligfaaDoorW.PrintLast Go.Proofs.YtoilapjkgligfaaDoorW.PrintMore
attribute [local go_sem] max2_int min2_int max_two min_two max_three min_three max_four min_four 
set_option linter.unusedVariables false
set_option linter.unusedSimpArgs false
def live_set_with.f (a0 : Int) (a1 : Int) : Option (Int) := if 0 ≤ (IntKind.u64.wrap (a1)) then (some (Go.bits .or .u64 a0 (shl .u64 1 (IntKind.u64.wrap (a1))))) else (none)
set_option maxHeartbeats 8000000 in
set_option maxRecDepth 100000 in
theorem live_set_with.calls (a0 : Int) (a1 : Int) (r : Int) (w : World) (h : live_set_with.f a0 a1 = some r) :
  Calls Tryd.prog 143 #[.int .u64 a0, .int .i64 a1] w fun e w' => e = .returned (.int .u64 r) ∧ Drawn0 w w' := by
 have H : (if 0 ≤ (IntKind.u64.wrap (a1)) then (some (Go.bits .or .u64 a0 (shl .u64 1 (IntKind.u64.wrap (a1))))) else (none)) = some r := h
 clear h
 obtain ⟨ji3, hji3⟩ : ∃ j_ : Int, (IntKind.u64.wrap (a1)) = j_ := ⟨_, rfl⟩
 replace H : (if 0 ≤ (ji3) then (some (Go.bits .or .u64 a0 (shl .u64 1 (ji3)))) else (none)) = some r := by first | (rw [hji3] at H; exact H) | (simp only [hji3] at H ⊢; exact H)
 by_cases c4 : 0 ≤ (ji3)
 ·rw [if_pos c4] at H
  have c4b0 := eq_true c4
  have c4b1 : decide (0 ≤ (ji3)) = true := decide_eq_true c4
  clear c4
  obtain ⟨ji5, hji5⟩ : ∃ j_ : Int, (shl .u64 1 (ji3)) = j_ := ⟨_, rfl⟩
  replace H : (some (Go.bits .or .u64 a0 (ji5))) = some r := by first | (rw [hji5] at H; exact H) | (simp only [hji5] at H ⊢; exact H)
  have hji5_ : (IntKind.u64.wrap (1 * 2 ^ min (ji3).toNat 64)) = ji5 := hji5
  have hji5z : (ji3) ≤ 64 → (IntKind.u64.wrap (1 * 2 ^ (ji3).toNat)) = ji5 := shl_small hji5
  have hji5u : (IntKind.u64.wrap (2 ^ min (ji3).toNat 64)) = ji5 := by have h_ := hji5_; rw [Int.one_mul] at h_; exact h_
  have hji5v : (ji3) ≤ 64 → (IntKind.u64.wrap (2 ^ (ji3).toNat)) = ji5 := fun hle_ => by have h_ := hji5z hle_; rw [Int.one_mul] at h_; exact h_
  obtain rfl := Option.some.inj H
  go_enter Tryd.func143, Tryd.ntmps143
  go_wp2
  go_ret
  exact ⟨by first | rfl | (simp; done) | (simp only [← hji3, ← hji5] <;> (first | rfl | simp)) | (simp [*]; done), by repeat (first | exact Drawn0.refl _ | apply Drawn0.step)⟩
 ·rw [if_neg c4] at H
  exact absurd H (by simp)
end Go.Proofs.YtoilapjkgligfaaDoor.P
namespace Go.Proofs.YtoilapjkgligfaaDoor.P
set_option linter.unusedVariables false
open Go.RowKit Go.Proofs.YtoilapjkgligfaaDoorW.PrintWords Go.Proofs.YtoilapjkgligfaaDoorW.PrintLast Go.Proofs.YtoilapjkgligfaaDoorW.PrintMore

def eachWith : List Int → Int → Option Int
  | [], s => some s
  | n :: l, s => (live_set_with.f s n).bind fun t => eachWith l t

theorem rd_drop (l : List Int) (k : Nat) (h : k < l.length) : l.drop k = rd l k :: l.drop (k + 1) := by
  rw [List.drop_eq_getElem_cons h]
  simp [rd, List.getD_eq_getElem?_getD, List.getElem?_eq_getElem h]

set_option maxHeartbeats 1000000 in
theorem live_set_each.with_calls (s : Int) (A : Option Addr) (c : Nat) (l : List Int) (r : Int) (w : World) (hr : Kd.C (Kd.int .i64) w A l.length l) (h : eachWith l s = some r) :
    Calls Tryd.prog 142 #[.int .u64 s, .slice A l.length c, .func (.func 143) #[] #[]] w fun e w' => e = .returned (.int .u64 r) ∧ Drawn0 w w' := by
  have HR := Aside0.mk hr
  have hlen := hr.2.1
  have HD := Aside0.mk (Drawn0.refl w)
  have H0 := Aside0.mk h
  clear hr h
  go_enter Tryd.func142, Tryd.ntmps142
  go_wp2
  go_loopw [0, 11] (fun v0 v11 wr => ∃ (k : Nat) (s' : Int), v11 = .int .i64 k ∧ v0 = .int .u64 s' ∧ k ≤ l.length ∧ Aside0 (eachWith (l.drop k) s' = some r) ∧ Aside0 (Drawn0 w wr)) (fun _ v11 _ => l.length - (intOf v11).toNat)
  case atStart => exact ⟨0, s, rfl, rfl, Nat.zero_le _, H0, HD⟩
  case round =>
    clear H0 HD
    obtain ⟨k, s', rfl, rfl, hk, H, HD⟩ := hrel
    by_cases hlt : k < l.length
    · have h := H.out
      clear H
      rw [rd_drop l k hlt] at h
      obtain ⟨t, ht, h⟩ := Option.bind_eq_some_iff.mp h
      have HT := Aside0.mk ht
      have H := Aside0.mk h
      clear h ht
      obtain ⟨ad, e, hx⟩ := Kd.at_int HR.out k (by omega) (by omega)
      cases e
      rw [Int.toNat_natCast] at hx
      replace hx := (HD.out.below.cell (World.block_lt_of_cell? w _ hx)).trans hx
      go_wp2_with (go_at_call 143; refine (live_set_with.calls _ _ t _ HT.out).mono ?_; rintro e w' ⟨rfl, ⟨nd, rfl⟩⟩)
      go_roundw
      case rel => exact ⟨k + 1, t, by go_num, rfl, by omega, H, ⟨HD.out.step _⟩⟩
      case measure => simp [intOf]; omega
    · have h := H.out
      rw [List.drop_eq_nil_of_le (by omega)] at h
      obtain rfl := Option.some.inj h
      clear h H
      go_wp2
      go_ret
      exact ⟨rfl, HD.out⟩
end Go.Proofs.YtoilapjkgligfaaDoor.P
namespace Go.Proofs.YtoilapjkgligfaaDoor.P
open Go.RowKit Go.Proofs.YtoilapjkgligfaaDoorW.PrintWords Go.Proofs.YtoilapjkgligfaaDoorW.PrintLast Go.Proofs.YtoilapjkgligfaaDoorW.PrintMore
attribute [local go_sem] max2_int min2_int max_two min_two max_three min_three max_four min_four 
set_option linter.unusedVariables false
set_option linter.unusedSimpArgs false
def run_Word.f (a0 : Int) : Option (Int) := some (Go.bits .and .i64 a0 65535)
set_option maxHeartbeats 8000000 in
set_option maxRecDepth 100000 in
theorem run_Word.calls (a0 : Int) (r : Int) (w : World) (h : run_Word.f a0 = some r) :
  Calls Tryd.prog 32 #[.int .i64 a0] w fun e w' => e = .returned (.int .i64 r) ∧ Drawn0 w w' := by
 have H : (some (Go.bits .and .i64 a0 65535)) = some r := h
 clear h
 obtain rfl := Option.some.inj H
 go_enter Tryd.func32, Tryd.ntmps32
 go_wp2
 go_ret
 exact ⟨by first | rfl | (simp; done) | (simp [*]; done), by repeat (first | exact Drawn0.refl _ | apply Drawn0.step)⟩
end Go.Proofs.YtoilapjkgligfaaDoor.P
namespace Go.Proofs.YtoilapjkgligfaaDoor.P
open Go.RowKit Go.Proofs.YtoilapjkgligfaaDoorW.PrintWords Go.Proofs.YtoilapjkgligfaaDoorW.PrintLast Go.Proofs.YtoilapjkgligfaaDoorW.PrintMore
attribute [local go_sem] max2_int min2_int max_two min_two max_three min_three max_four min_four 
set_option linter.unusedVariables false
set_option linter.unusedSimpArgs false
def run_Op.f (a0 : Int) (a1 : Int) (a2 : Int) : Option (Int × Bool) := (run_Word.f a1).bind fun t266 => ((run_Word.f a2).bind fun t267 => (if a0 = 3 then ((run_Word.f (wrap64 (t266 + t267))).bind fun t268 => (some (t268, true))) else (if a0 = 4 then ((run_Word.f (wrap64 (t266 - t267))).bind fun t269 => (some (t269, true))) else (if a0 = 5 then ((run_Word.f (wrap64 (t266 * t267))).bind fun t270 => (some (t270, true))) else (if a0 = 6 then (if t266 < t267 then (some (1, true)) else (some (0, true))) else (if a0 = 7 then (if t267 = 0 then (some (0, false)) else (some (wrap64 (Int.tdiv t266 t267), true))) else (some (0, false))))))))
set_option maxHeartbeats 8000000 in
set_option maxRecDepth 100000 in
theorem run_Op.calls (a0 : Int) (a1 : Int) (a2 : Int) (r1 : Int) (r2 : Bool) (w : World) (h : run_Op.f a0 a1 a2 = some (r1, r2)) :
  Calls Tryd.prog 74 #[.int .i64 a0, .int .i64 a1, .int .i64 a2] w fun e w' => e = .returned (.tuple #[.int .i64 r1, .bool r2]) ∧ Drawn0 w w' := by
 have H : ((run_Word.f a1).bind fun t266 => ((run_Word.f a2).bind fun t267 => (if a0 = 3 then ((run_Word.f (wrap64 (t266 + t267))).bind fun t268 => (some (t268, true))) else (if a0 = 4 then ((run_Word.f (wrap64 (t266 - t267))).bind fun t269 => (some (t269, true))) else (if a0 = 5 then ((run_Word.f (wrap64 (t266 * t267))).bind fun t270 => (some (t270, true))) else (if a0 = 6 then (if t266 < t267 then (some (1, true)) else (some (0, true))) else (if a0 = 7 then (if t267 = 0 then (some (0, false)) else (some (wrap64 (Int.tdiv t266 t267), true))) else (some (0, false))))))))) = some (r1, r2) := h
 clear h
 replace H := Option.bind_eq_some_iff.mp H
 obtain ⟨t266, A40, H⟩ := H
 replace H : ((run_Word.f a2).bind fun t267 => (if a0 = 3 then ((run_Word.f (wrap64 (t266 + t267))).bind fun t268 => (some (t268, true))) else (if a0 = 4 then ((run_Word.f (wrap64 (t266 - t267))).bind fun t269 => (some (t269, true))) else (if a0 = 5 then ((run_Word.f (wrap64 (t266 * t267))).bind fun t270 => (some (t270, true))) else (if a0 = 6 then (if t266 < t267 then (some (1, true)) else (some (0, true))) else (if a0 = 7 then (if t267 = 0 then (some (0, false)) else (some (wrap64 (Int.tdiv t266 t267), true))) else (some (0, false)))))))) = some (r1, r2) := H
 have A4 := Aside0.mk A40
 clear A40
 replace H := Option.bind_eq_some_iff.mp H
 obtain ⟨t267, A50, H⟩ := H
 replace H : (if a0 = 3 then ((run_Word.f (wrap64 (t266 + t267))).bind fun t268 => (some (t268, true))) else (if a0 = 4 then ((run_Word.f (wrap64 (t266 - t267))).bind fun t269 => (some (t269, true))) else (if a0 = 5 then ((run_Word.f (wrap64 (t266 * t267))).bind fun t270 => (some (t270, true))) else (if a0 = 6 then (if t266 < t267 then (some (1, true)) else (some (0, true))) else (if a0 = 7 then (if t267 = 0 then (some (0, false)) else (some (wrap64 (Int.tdiv t266 t267), true))) else (some (0, false))))))) = some (r1, r2) := H
 have A5 := Aside0.mk A50
 clear A50
 by_cases c6 : a0 = 3
 ·rw [if_pos c6] at H
  have c6b0 : (a0 == 3) = true := beq_iff_eq.mpr c6
  have c6b1 : (a0 != 3) = false := bne_eq_false_iff_eq.mpr c6
  clear c6
  replace H := Option.bind_eq_some_iff.mp H
  obtain ⟨t268, A70, H⟩ := H
  replace H : (some (t268, true)) = some (r1, r2) := H
  have A7 := Aside0.mk A70
  clear A70
  simp only [Option.some.injEq, Prod.mk.injEq] at H
  obtain ⟨rfl, rfl⟩ := H
  go_enter Tryd.func74, Tryd.ntmps74
  go_wp2_with (first | ((with_reducible refine gate_callee (f := 32) rfl ?_); refine goesL_ (some 9) rfl rfl Tryd.func32 (by kernel_rfl) rfl #[.int .i64 a1] rfl (by (try simp only [List.map_toArray, List.map_cons, List.map_nil]); first | done | rfl | (simp only [List.length_drop, List.length_take]; rfl)) ?_; (with_reducible refine (run_Word.calls a1 t266 _ A4.out).mono ?_); rintro e w' ⟨rfl, ⟨nd, rfl⟩⟩; refine ⟨_, rfl, ?_⟩; (try clear A4)) | ((with_reducible refine gate_callee (f := 32) rfl ?_); refine goesL_ (some 11) rfl rfl Tryd.func32 (by kernel_rfl) rfl #[.int .i64 a2] rfl (by (try simp only [List.map_toArray, List.map_cons, List.map_nil]); first | done | rfl | (simp only [List.length_drop, List.length_take]; rfl)) ?_; (with_reducible refine (run_Word.calls a2 t267 _ A5.out).mono ?_); rintro e w' ⟨rfl, ⟨nd, rfl⟩⟩; refine ⟨_, rfl, ?_⟩; (try clear A5)) | ((with_reducible refine gate_callee (f := 32) rfl ?_); refine goesL_ (some 18) rfl rfl Tryd.func32 (by kernel_rfl) rfl #[.int .i64 (wrap64 (t266 + t267))] rfl (by (try simp only [List.map_toArray, List.map_cons, List.map_nil]); first | done | rfl | (simp only [List.length_drop, List.length_take]; rfl)) ?_; (with_reducible refine (run_Word.calls (wrap64 (t266 + t267)) t268 _ A7.out).mono ?_); rintro e w' ⟨rfl, ⟨nd, rfl⟩⟩; refine ⟨_, rfl, ?_⟩; (try clear A7)))
  go_ret2
  exact ⟨by first | rfl | (simp; done) | (simp [*]; done), by repeat (first | exact Drawn0.refl _ | apply Drawn0.step)⟩
 ·rw [if_neg c6] at H
  have c6b0 : (a0 == 3) = false := beq_eq_false_iff_ne.mpr c6
  have c6b1 : (a0 != 3) = true := bne_iff_ne.mpr c6
  by_cases c8 : a0 = 4
  ·rw [if_pos c8] at H
   have c8b0 : (a0 == 4) = true := beq_iff_eq.mpr c8
   have c8b1 : (a0 != 4) = false := bne_eq_false_iff_eq.mpr c8
   clear c8
   replace H := Option.bind_eq_some_iff.mp H
   obtain ⟨t269, A90, H⟩ := H
   replace H : (some (t269, true)) = some (r1, r2) := H
   have A9 := Aside0.mk A90
   clear A90
   simp only [Option.some.injEq, Prod.mk.injEq] at H
   obtain ⟨rfl, rfl⟩ := H
   go_enter Tryd.func74, Tryd.ntmps74
   go_wp2_with (first | ((with_reducible refine gate_callee (f := 32) rfl ?_); refine goesL_ (some 9) rfl rfl Tryd.func32 (by kernel_rfl) rfl #[.int .i64 a1] rfl (by (try simp only [List.map_toArray, List.map_cons, List.map_nil]); first | done | rfl | (simp only [List.length_drop, List.length_take]; rfl)) ?_; (with_reducible refine (run_Word.calls a1 t266 _ A4.out).mono ?_); rintro e w' ⟨rfl, ⟨nd, rfl⟩⟩; refine ⟨_, rfl, ?_⟩; (try clear A4)) | ((with_reducible refine gate_callee (f := 32) rfl ?_); refine goesL_ (some 11) rfl rfl Tryd.func32 (by kernel_rfl) rfl #[.int .i64 a2] rfl (by (try simp only [List.map_toArray, List.map_cons, List.map_nil]); first | done | rfl | (simp only [List.length_drop, List.length_take]; rfl)) ?_; (with_reducible refine (run_Word.calls a2 t267 _ A5.out).mono ?_); rintro e w' ⟨rfl, ⟨nd, rfl⟩⟩; refine ⟨_, rfl, ?_⟩; (try clear A5)) | ((with_reducible refine gate_callee (f := 32) rfl ?_); refine goesL_ (some 24) rfl rfl Tryd.func32 (by kernel_rfl) rfl #[.int .i64 (wrap64 (t266 - t267))] rfl (by (try simp only [List.map_toArray, List.map_cons, List.map_nil]); first | done | rfl | (simp only [List.length_drop, List.length_take]; rfl)) ?_; (with_reducible refine (run_Word.calls (wrap64 (t266 - t267)) t269 _ A9.out).mono ?_); rintro e w' ⟨rfl, ⟨nd, rfl⟩⟩; refine ⟨_, rfl, ?_⟩; (try clear A9)))
   go_ret2
   exact ⟨by first | rfl | (simp; done) | (simp [*]; done), by repeat (first | exact Drawn0.refl _ | apply Drawn0.step)⟩
  ·rw [if_neg c8] at H
   have c8b0 : (a0 == 4) = false := beq_eq_false_iff_ne.mpr c8
   have c8b1 : (a0 != 4) = true := bne_iff_ne.mpr c8
   by_cases c10 : a0 = 5
   ·rw [if_pos c10] at H
    have c10b0 : (a0 == 5) = true := beq_iff_eq.mpr c10
    have c10b1 : (a0 != 5) = false := bne_eq_false_iff_eq.mpr c10
    clear c10
    replace H := Option.bind_eq_some_iff.mp H
    obtain ⟨t270, A110, H⟩ := H
    replace H : (some (t270, true)) = some (r1, r2) := H
    have A11 := Aside0.mk A110
    clear A110
    simp only [Option.some.injEq, Prod.mk.injEq] at H
    obtain ⟨rfl, rfl⟩ := H
    go_enter Tryd.func74, Tryd.ntmps74
    go_wp2_with (first | ((with_reducible refine gate_callee (f := 32) rfl ?_); refine goesL_ (some 9) rfl rfl Tryd.func32 (by kernel_rfl) rfl #[.int .i64 a1] rfl (by (try simp only [List.map_toArray, List.map_cons, List.map_nil]); first | done | rfl | (simp only [List.length_drop, List.length_take]; rfl)) ?_; (with_reducible refine (run_Word.calls a1 t266 _ A4.out).mono ?_); rintro e w' ⟨rfl, ⟨nd, rfl⟩⟩; refine ⟨_, rfl, ?_⟩; (try clear A4)) | ((with_reducible refine gate_callee (f := 32) rfl ?_); refine goesL_ (some 11) rfl rfl Tryd.func32 (by kernel_rfl) rfl #[.int .i64 a2] rfl (by (try simp only [List.map_toArray, List.map_cons, List.map_nil]); first | done | rfl | (simp only [List.length_drop, List.length_take]; rfl)) ?_; (with_reducible refine (run_Word.calls a2 t267 _ A5.out).mono ?_); rintro e w' ⟨rfl, ⟨nd, rfl⟩⟩; refine ⟨_, rfl, ?_⟩; (try clear A5)) | ((with_reducible refine gate_callee (f := 32) rfl ?_); refine goesL_ (some 30) rfl rfl Tryd.func32 (by kernel_rfl) rfl #[.int .i64 (wrap64 (t266 * t267))] rfl (by (try simp only [List.map_toArray, List.map_cons, List.map_nil]); first | done | rfl | (simp only [List.length_drop, List.length_take]; rfl)) ?_; (with_reducible refine (run_Word.calls (wrap64 (t266 * t267)) t270 _ A11.out).mono ?_); rintro e w' ⟨rfl, ⟨nd, rfl⟩⟩; refine ⟨_, rfl, ?_⟩; (try clear A11)))
    go_ret2
    exact ⟨by first | rfl | (simp; done) | (simp [*]; done), by repeat (first | exact Drawn0.refl _ | apply Drawn0.step)⟩
   ·rw [if_neg c10] at H
    have c10b0 : (a0 == 5) = false := beq_eq_false_iff_ne.mpr c10
    have c10b1 : (a0 != 5) = true := bne_iff_ne.mpr c10
    by_cases c12 : a0 = 6
    ·rw [if_pos c12] at H
     have c12b0 : (a0 == 6) = true := beq_iff_eq.mpr c12
     have c12b1 : (a0 != 6) = false := bne_eq_false_iff_eq.mpr c12
     clear c12
     by_cases c13 : t266 < t267
     ·rw [if_pos c13] at H
      have c13b0 : decide (t266 < t267) = true := decide_eq_true c13
      clear c13
      simp only [Option.some.injEq, Prod.mk.injEq] at H
      obtain ⟨rfl, rfl⟩ := H
      go_enter Tryd.func74, Tryd.ntmps74
      go_wp2_with (first | ((with_reducible refine gate_callee (f := 32) rfl ?_); refine goesL_ (some 9) rfl rfl Tryd.func32 (by kernel_rfl) rfl #[.int .i64 a1] rfl (by (try simp only [List.map_toArray, List.map_cons, List.map_nil]); first | done | rfl | (simp only [List.length_drop, List.length_take]; rfl)) ?_; (with_reducible refine (run_Word.calls a1 t266 _ A4.out).mono ?_); rintro e w' ⟨rfl, ⟨nd, rfl⟩⟩; refine ⟨_, rfl, ?_⟩; (try clear A4)) | ((with_reducible refine gate_callee (f := 32) rfl ?_); refine goesL_ (some 11) rfl rfl Tryd.func32 (by kernel_rfl) rfl #[.int .i64 a2] rfl (by (try simp only [List.map_toArray, List.map_cons, List.map_nil]); first | done | rfl | (simp only [List.length_drop, List.length_take]; rfl)) ?_; (with_reducible refine (run_Word.calls a2 t267 _ A5.out).mono ?_); rintro e w' ⟨rfl, ⟨nd, rfl⟩⟩; refine ⟨_, rfl, ?_⟩; (try clear A5)))
      go_ret2
      exact ⟨by first | rfl | (simp; done) | (simp [*]; done), by repeat (first | exact Drawn0.refl _ | apply Drawn0.step)⟩
     ·rw [if_neg c13] at H
      have c13b0 : decide (t266 < t267) = false := decide_eq_false c13
      clear c13
      simp only [Option.some.injEq, Prod.mk.injEq] at H
      obtain ⟨rfl, rfl⟩ := H
      go_enter Tryd.func74, Tryd.ntmps74
      go_wp2_with (first | ((with_reducible refine gate_callee (f := 32) rfl ?_); refine goesL_ (some 9) rfl rfl Tryd.func32 (by kernel_rfl) rfl #[.int .i64 a1] rfl (by (try simp only [List.map_toArray, List.map_cons, List.map_nil]); first | done | rfl | (simp only [List.length_drop, List.length_take]; rfl)) ?_; (with_reducible refine (run_Word.calls a1 t266 _ A4.out).mono ?_); rintro e w' ⟨rfl, ⟨nd, rfl⟩⟩; refine ⟨_, rfl, ?_⟩; (try clear A4)) | ((with_reducible refine gate_callee (f := 32) rfl ?_); refine goesL_ (some 11) rfl rfl Tryd.func32 (by kernel_rfl) rfl #[.int .i64 a2] rfl (by (try simp only [List.map_toArray, List.map_cons, List.map_nil]); first | done | rfl | (simp only [List.length_drop, List.length_take]; rfl)) ?_; (with_reducible refine (run_Word.calls a2 t267 _ A5.out).mono ?_); rintro e w' ⟨rfl, ⟨nd, rfl⟩⟩; refine ⟨_, rfl, ?_⟩; (try clear A5)))
      go_ret2
      exact ⟨by first | rfl | (simp; done) | (simp [*]; done), by repeat (first | exact Drawn0.refl _ | apply Drawn0.step)⟩
    ·rw [if_neg c12] at H
     have c12b0 : (a0 == 6) = false := beq_eq_false_iff_ne.mpr c12
     have c12b1 : (a0 != 6) = true := bne_iff_ne.mpr c12
     by_cases c14 : a0 = 7
     ·rw [if_pos c14] at H
      have c14b0 : (a0 == 7) = true := beq_iff_eq.mpr c14
      have c14b1 : (a0 != 7) = false := bne_eq_false_iff_eq.mpr c14
      clear c14
      by_cases c15 : t267 = 0
      ·rw [if_pos c15] at H
       have c15b0 : (t267 == 0) = true := beq_iff_eq.mpr c15
       have c15b1 : (t267 != 0) = false := bne_eq_false_iff_eq.mpr c15
       clear c15
       simp only [Option.some.injEq, Prod.mk.injEq] at H
       obtain ⟨rfl, rfl⟩ := H
       go_enter Tryd.func74, Tryd.ntmps74
       go_wp2_with (first | ((with_reducible refine gate_callee (f := 32) rfl ?_); refine goesL_ (some 9) rfl rfl Tryd.func32 (by kernel_rfl) rfl #[.int .i64 a1] rfl (by (try simp only [List.map_toArray, List.map_cons, List.map_nil]); first | done | rfl | (simp only [List.length_drop, List.length_take]; rfl)) ?_; (with_reducible refine (run_Word.calls a1 t266 _ A4.out).mono ?_); rintro e w' ⟨rfl, ⟨nd, rfl⟩⟩; refine ⟨_, rfl, ?_⟩; (try clear A4)) | ((with_reducible refine gate_callee (f := 32) rfl ?_); refine goesL_ (some 11) rfl rfl Tryd.func32 (by kernel_rfl) rfl #[.int .i64 a2] rfl (by (try simp only [List.map_toArray, List.map_cons, List.map_nil]); first | done | rfl | (simp only [List.length_drop, List.length_take]; rfl)) ?_; (with_reducible refine (run_Word.calls a2 t267 _ A5.out).mono ?_); rintro e w' ⟨rfl, ⟨nd, rfl⟩⟩; refine ⟨_, rfl, ?_⟩; (try clear A5)))
       go_ret2
       exact ⟨by first | rfl | (simp; done) | (simp [*]; done), by repeat (first | exact Drawn0.refl _ | apply Drawn0.step)⟩
      ·rw [if_neg c15] at H
       have c15b0 : (t267 == 0) = false := beq_eq_false_iff_ne.mpr c15
       have c15b1 : (t267 != 0) = true := bne_iff_ne.mpr c15
       simp only [Option.some.injEq, Prod.mk.injEq] at H
       obtain ⟨rfl, rfl⟩ := H
       go_enter Tryd.func74, Tryd.ntmps74
       go_wp2_with (first | ((with_reducible refine gate_callee (f := 32) rfl ?_); refine goesL_ (some 9) rfl rfl Tryd.func32 (by kernel_rfl) rfl #[.int .i64 a1] rfl (by (try simp only [List.map_toArray, List.map_cons, List.map_nil]); first | done | rfl | (simp only [List.length_drop, List.length_take]; rfl)) ?_; (with_reducible refine (run_Word.calls a1 t266 _ A4.out).mono ?_); rintro e w' ⟨rfl, ⟨nd, rfl⟩⟩; refine ⟨_, rfl, ?_⟩; (try clear A4)) | ((with_reducible refine gate_callee (f := 32) rfl ?_); refine goesL_ (some 11) rfl rfl Tryd.func32 (by kernel_rfl) rfl #[.int .i64 a2] rfl (by (try simp only [List.map_toArray, List.map_cons, List.map_nil]); first | done | rfl | (simp only [List.length_drop, List.length_take]; rfl)) ?_; (with_reducible refine (run_Word.calls a2 t267 _ A5.out).mono ?_); rintro e w' ⟨rfl, ⟨nd, rfl⟩⟩; refine ⟨_, rfl, ?_⟩; (try clear A5)))
       go_ret2
       exact ⟨by first | rfl | (simp; done) | (simp [*]; done), by repeat (first | exact Drawn0.refl _ | apply Drawn0.step)⟩
     ·rw [if_neg c14] at H
      have c14b0 : (a0 == 7) = false := beq_eq_false_iff_ne.mpr c14
      have c14b1 : (a0 != 7) = true := bne_iff_ne.mpr c14
      simp only [Option.some.injEq, Prod.mk.injEq] at H
      obtain ⟨rfl, rfl⟩ := H
      go_enter Tryd.func74, Tryd.ntmps74
      go_wp2_with (first | ((with_reducible refine gate_callee (f := 32) rfl ?_); refine goesL_ (some 9) rfl rfl Tryd.func32 (by kernel_rfl) rfl #[.int .i64 a1] rfl (by (try simp only [List.map_toArray, List.map_cons, List.map_nil]); first | done | rfl | (simp only [List.length_drop, List.length_take]; rfl)) ?_; (with_reducible refine (run_Word.calls a1 t266 _ A4.out).mono ?_); rintro e w' ⟨rfl, ⟨nd, rfl⟩⟩; refine ⟨_, rfl, ?_⟩; (try clear A4)) | ((with_reducible refine gate_callee (f := 32) rfl ?_); refine goesL_ (some 11) rfl rfl Tryd.func32 (by kernel_rfl) rfl #[.int .i64 a2] rfl (by (try simp only [List.map_toArray, List.map_cons, List.map_nil]); first | done | rfl | (simp only [List.length_drop, List.length_take]; rfl)) ?_; (with_reducible refine (run_Word.calls a2 t267 _ A5.out).mono ?_); rintro e w' ⟨rfl, ⟨nd, rfl⟩⟩; refine ⟨_, rfl, ?_⟩; (try clear A5)))
      go_ret2
      exact ⟨by first | rfl | (simp; done) | (simp [*]; done), by repeat (first | exact Drawn0.refl _ | apply Drawn0.step)⟩
end Go.Proofs.YtoilapjkgligfaaDoor.P
namespace Go.Proofs.YtoilapjkgligfaaDoor.P
set_option linter.unusedVariables false
open Go.RowKit Go.Proofs.YtoilapjkgligfaaDoorW.PrintWords Go.Proofs.YtoilapjkgligfaaDoorW.PrintLast Go.Proofs.YtoilapjkgligfaaDoorW.PrintMore

def gi (l : List Int) (i : Int) : Option Int := if 0 ≤ i then if i < (l.length : Int) then some (rd l i) else none else none
def si (l : List Int) (i v : Int) : Option (List Int) := if 0 ≤ i then if i < (l.length : Int) then some (l.set i.toNat v) else none else none
def gb (l : List (List S32)) (i : Int) : Option (List S32) := if 0 ≤ i then if i < (l.length : Int) then some (rd_LT32 l i) else none else none

abbrev RunR := Int × Int × List Int × List Int × Int
def instrL (B : List (List S32)) (next : List Int → List S32 → List Int → List Int → Int → Option RunR) (r : List Int) (x : S32) (rest : List S32) (mem told : List Int) (steps : Int) : Option RunR :=
  if x.f0 = 1 then (si r x.f1 x.f2).bind fun r => next r rest mem told steps
  else if x.f0 = 2 then (gi r x.f2).bind fun v => (si r x.f1 v).bind fun r => next r rest mem told steps
  else if x.f0 = 8 then (gi r x.f2).bind fun a => if 0 ≤ a then (si r x.f1 (rd mem (a % 256))).bind fun r => next r rest mem told steps else none
  else if x.f0 = 9 then (gi r x.f2).bind fun a => if 0 ≤ a then (gi r x.f3).bind fun b => next r rest (mem.set (a % 256).toNat b) told steps else none
  else if x.f0 = 10 then (gi r x.f2).bind fun a => if told.length < 17592186044416 then next r rest mem (told ++ [a]) steps else none
  else if x.f0 = 11 then none
  else if x.f0 = 12 then (gb B x.f2).bind fun rest => next r rest mem told steps
  else if x.f0 = 13 then (gb B x.f1).bind fun rest1 => (gi r x.f2).bind fun a => if a = 0 then next r rest1 mem told steps else (gb B x.f3).bind fun rest2 => next r rest2 mem told steps
  else if x.f0 = 14 then (gi r x.f2).bind fun a => some (1, a, told, mem, steps)
  else (gi r x.f2).bind fun a => (gi r x.f3).bind fun b => (run_Op.f x.f0 a b).bind fun n => if n.2 = true then (si r x.f1 n.1).bind fun r => next r rest mem told steps else some (2, 0, told, mem, steps)
def runL (B : List (List S32)) (fuel : Int) : Nat → List Int → List S32 → List Int → List Int → Int → Option RunR
  | 0, _, _, _, _, _ => none
  | k + 1, r, rest, mem, told, steps =>
    if fuel ≤ steps then some (3, 0, told, mem, steps) else
    match rest with
    | [] => none
    | x :: rest => instrL B (runL B fuel k) r x rest mem told (steps + 1)
theorem runL_out {B : List (List S32)} {fuel : Int} {k : Nat} {r : List Int} {rest : List S32} {mem told : List Int} {steps : Int} (h : fuel ≤ steps) : runL B fuel (k + 1) r rest mem told steps = some (3, 0, told, mem, steps) := by
  cases rest <;> simp [runL, h]
theorem runL_nil {B : List (List S32)} {fuel : Int} {k : Nat} {r mem told : List Int} {steps : Int} (h : ¬ fuel ≤ steps) : runL B fuel (k + 1) r [] mem told steps = none := by simp [runL, h]
theorem runL_cons {B : List (List S32)} {fuel : Int} {k : Nat} {r : List Int} {x : S32} {rest : List S32} {mem told : List Int} {steps : Int} (h : ¬ fuel ≤ steps) : runL B fuel (k + 1) r (x :: rest) mem told steps = instrL B (runL B fuel k) r x rest mem told (steps + 1) := by simp [runL, h]

def word (n : Int) : Int := Go.bits .and .i64 n 65535
def mem0 (mem : List Int) : List Int := (List.range 256).map fun i => if i < mem.length then word (rd mem i) else 0
def regs0 (vals : List Int) (n : Nat) : List Int := vals.take n ++ List.replicate (n - vals.length) 0
def clampFuel (fuel : Int) : Int := max 0 (min fuel 1048576)

def runCall (k : Nat) (mod : List S24) (name : ByteArray) (vals mem : List Int) (fuel : Int) : Option RunR :=
  match mod.find? (fun f => f.f0.toList == name.toList) with
  | none => some (2, 0, [], mem, 0)
  | some f => if f.f1 ≠ (vals.length : Int) then some (2, 0, [], mem, 0) else
    if 0 ≤ f.f2 ∧ f.f2 ≤ 1000 then (gb f.f3 0).bind fun b => runL f.f3 fuel k (regs0 vals f.f2.toNat) b mem [] 0 else none
def run_Run.f (k : Nat) (mod : List S24) (name : ByteArray) (args mem : List Int) (fuel : Int) : Option RunR :=
  runCall k mod name (args.map word) (mem0 mem) (clampFuel fuel)
end Go.Proofs.YtoilapjkgligfaaDoor.P
namespace Go.Proofs.YtoilapjkgligfaaDoor.P
set_option linter.unusedVariables false
open Go.RowKit Go.Proofs.YtoilapjkgligfaaDoorW.PrintWords Go.Proofs.YtoilapjkgligfaaDoorW.PrintLast Go.Proofs.YtoilapjkgligfaaDoorW.PrintMore

set_option maxHeartbeats 400000 in
theorem run_call_eq.calls (n nm : ByteArray) (p r : Int) (V : Value) (g : Nat) (w : World) (hb : w.heap[g]? = some (.cells #[.string nm] 9 (0, 0))) :
    Calls Tryd.prog 72 #[.agg #[.string n, .int .i64 p, .int .i64 r, V], .pointer (some ⟨g, 0, none⟩)] w fun e w' => e = .returned (.bool (n.toList == nm.toList)) ∧ Below w.heap.size w w' := by
  have hu := Tryd.underlying24
  have c := (blk_cell (blk_alloc hb (.cells #[.string n, .int .i64 p, .int .i64 r, V] 24 (0, 0))) 0).trans rfl
  have HB := Aside0.mk (below_alloc (Below.refl w.heap.size w) (.cells #[.string n, .int .i64 p, .int .i64 r, V] 24 (0, 0)))
  clear hb
  go_enter Tryd.func72, Tryd.ntmps72
  go_wp2
  go_ret
  exact ⟨rfl, HB.out⟩

set_option maxHeartbeats 1000000 in
theorem slices_IndexFunc.name_calls (nm : ByteArray) (g : Nat) (A : Option Addr) (c : Nat) (l : List S24) (w : World) (hr : Kd.C k24 w A l.length l) (hb : w.heap[g]? = some (.cells #[.string nm] 9 (0, 0))) :
    Calls Tryd.prog 71 #[.slice A l.length c, .func (.func 72) #[] #[.pointer (some ⟨g, 0, none⟩)]] w fun e w' => (∃ i : Int, e = .returned (.int .i64 i) ∧ ((i = -1 ∧ l.find? (fun f => f.f0.toList == nm.toList) = none) ∨ (0 ≤ i ∧ i < l.length ∧ l.find? (fun f => f.f0.toList == nm.toList) = some (rd_T24 l i)))) ∧ Below w.heap.size w w' := by
  have HR := Aside0.mk hr
  have BK := Aside0.mk hb
  have hlen := hr.2.1
  have HB := Aside0.mk (Below.refl w.heap.size w)
  clear hr hb
  go_enter Tryd.func71, Tryd.ntmps71
  go_wp2
  go_loopw [8] (fun v8 wr => ∃ (k : Nat), v8 = .int .i64 k ∧ k ≤ l.length ∧ Aside0 ((l.take k).find? (fun f => f.f0.toList == nm.toList) = none) ∧ Aside0 (Below w.heap.size w wr)) (fun v8 _ => l.length - (intOf v8).toNat)
  case atStart => exact ⟨0, rfl, Nat.zero_le _, ⟨rfl⟩, HB⟩
  case round =>
    clear HB
    obtain ⟨k, rfl, hk, HN, HB⟩ := hrel
    by_cases hlt : k < l.length
    · obtain ⟨ad, A3, c3, e, h0, h1, h2, h3, hl3, hr3⟩ := at_T24 HR.out k (by omega) (by omega)
      cases e
      rw [Int.toNat_natCast] at h0 h1 h2 h3
      replace h0 := (HB.out.cell (World.block_lt_of_cell? w _ h0)).trans h0
      replace h1 := (HB.out.cell (World.block_lt_of_cell? w _ h1)).trans h1
      replace h2 := (HB.out.cell (World.block_lt_of_cell? w _ h2)).trans h2
      replace h3 := (HB.out.cell (World.block_lt_of_cell? w _ h3)).trans h3
      clear hl3 hr3
      have BK1 := Aside0.mk (blk_below BK.out HB.out)
      have HT : l.take (k + 1) = l.take k ++ [rd_T24 l k] := by
        rw [List.take_succ_eq_append_getElem hlt]
        simp [rd_T24, List.getD_eq_getElem?_getD, List.getElem?_eq_getElem hlt]
      have HF := Aside0.mk (show (l.take (k + 1)).find? (fun f => f.f0.toList == nm.toList) = if ((rd_T24 l k).f0.toList == nm.toList) then some (rd_T24 l k) else none by
        rw [HT, List.find?_append, HN.out]
        simp only [Option.none_or, List.find?_cons, List.find?_nil]
        cases ((rd_T24 l k).f0.toList == nm.toList) <;> rfl)
      clear HT
      cases hq : ((rd_T24 l k).f0.toList == nm.toList) with
      | true =>
        have HQ := Aside0.mk hq
        clear hq
        go_wp2_with (go_at_call 72; refine (run_call_eq.calls _ nm _ _ _ g _ BK1.out).mono ?_; rintro e w' ⟨rfl, hb⟩; rw [HQ.out]; have HB2 := Aside0.mk (below_step HB.out hb); clear hb)
        go_ret
        refine ⟨⟨k, rfl, .inr ⟨by omega, by omega, ?_⟩⟩, HB2.out⟩
        have h := HF.out
        rw [HQ.out, if_pos rfl] at h
        have h2 : (l.take (k + 1) ++ l.drop (k + 1)).find? (fun f => f.f0.toList == nm.toList) = some (rd_T24 l k) := by rw [List.find?_append, h]; rfl
        rwa [List.take_append_drop] at h2
      | false =>
        have HQ := Aside0.mk hq
        clear hq
        go_wp2_with (go_at_call 72; refine (run_call_eq.calls _ nm _ _ _ g _ BK1.out).mono ?_; rintro e w' ⟨rfl, hb⟩; rw [HQ.out]; have HB2 := Aside0.mk (below_step HB.out hb); clear hb)
        go_roundw
        case rel => exact ⟨k + 1, by go_num, by omega, ⟨by rw [HF.out, HQ.out]; rfl⟩, HB2⟩
        case measure => simp [intOf]; omega
    · go_wp2
      go_ret
      refine ⟨⟨-1, rfl, .inl ⟨rfl, ?_⟩⟩, HB.out⟩
      have h := HN.out
      rwa [List.take_of_length_le (by omega)] at h

def mCells (modv tv : Value) (mem : List Int) (fuel steps : Int) : Array Value := (modv :: (mem.map (Value.int .i64) ++ [tv, .int .i64 fuel, .int .i64 steps])).toArray
theorem mCells_at (modv tv : Value) (mem : List Int) (fuel steps : Int) (i : Nat) : (mCells modv tv mem fuel steps)[i]? = (modv :: (mem.map (Value.int .i64) ++ [tv, .int .i64 fuel, .int .i64 steps]))[i]? := by simp [mCells]
theorem mCells_mod (modv tv : Value) (mem : List Int) (fuel steps : Int) : (mCells modv tv mem fuel steps)[0]? = some modv := by rw [mCells_at]; rfl
theorem mCells_mem (modv tv : Value) (mem : List Int) (fuel steps : Int) (i : Nat) (h : i < mem.length) : (mCells modv tv mem fuel steps)[1 + i]? = some (.int .i64 (rd mem i)) := by
  rw [mCells_at, Nat.add_comm 1 i, List.getElem?_cons_succ, List.getElem?_append_left (by simpa using h)]
  simp [rd, List.getElem?_eq_getElem h]
theorem mCells_told (modv tv : Value) (mem : List Int) (fuel steps : Int) (h : mem.length = 256) : (mCells modv tv mem fuel steps)[257]? = some tv := by
  rw [mCells_at, List.getElem?_cons_succ, List.getElem?_append_right (by simp [h])]; simp [h]
theorem mCells_fuel (modv tv : Value) (mem : List Int) (fuel steps : Int) (h : mem.length = 256) : (mCells modv tv mem fuel steps)[258]? = some (.int .i64 fuel) := by
  rw [mCells_at, List.getElem?_cons_succ, List.getElem?_append_right (by simp [h])]; simp [h]
theorem mCells_steps (modv tv : Value) (mem : List Int) (fuel steps : Int) (h : mem.length = 256) : (mCells modv tv mem fuel steps)[259]? = some (.int .i64 steps) := by
  rw [mCells_at, List.getElem?_cons_succ, List.getElem?_append_right (by simp [h])]; simp [h]
theorem mCells_set_steps (modv tv : Value) (mem : List Int) (fuel steps s : Int) (h : mem.length = 256) : (mCells modv tv mem fuel steps).setIfInBounds 259 (.int .i64 s) = mCells modv tv mem fuel s := by
  unfold mCells
  rw [List.setIfInBounds_toArray, List.set_cons_succ, List.set_append_right _ _ (by simp [h])]; simp [h]
theorem mCells_set_told (modv tv tv' : Value) (mem : List Int) (fuel steps : Int) (h : mem.length = 256) : (mCells modv tv mem fuel steps).setIfInBounds 257 tv' = mCells modv tv' mem fuel steps := by
  unfold mCells
  rw [List.setIfInBounds_toArray, List.set_cons_succ, List.set_append_right _ _ (by simp [h])]; simp [h]
theorem mCells_set_mem (modv tv : Value) (mem : List Int) (fuel steps : Int) (i : Nat) (v : Int) (h : i < mem.length) : (mCells modv tv mem fuel steps).setIfInBounds (1 + i) (.int .i64 v) = mCells modv tv (mem.set i v) fuel steps := by
  unfold mCells
  rw [List.setIfInBounds_toArray, Nat.add_comm 1 i, List.set_cons_succ, List.set_append_left _ _ (by simpa using h), List.map_set]

def outV : Value := .iface 77 (.agg #[])
def trapV : Value := .iface 76 (.agg #[])

set_option maxHeartbeats 1000000 in
theorem run_step.go (modv tv : Value) (mem : List Int) (fuel steps : Int) (g : Nat) (w : World) (hm : mem.length = 256) (hb : w.heap[g]? = some (.cells (mCells modv tv mem fuel steps) 73 (0, 0))) (h : steps < fuel) (hf : fuel ≤ 1048576) (hs : 0 ≤ steps) :
    Calls Tryd.prog 73 #[.pointer (some ⟨g, 0, none⟩)] w fun e w' => e = .returned (.tuple #[]) ∧ ∃ n, w' = (w.drewN n).setCell ⟨g, 259, none⟩ (.int .i64 (steps + 1)) := by
  have hu := Tryd.underlying73
  have c1 := (blk_cell hb 258).trans (mCells_fuel modv tv mem fuel steps hm)
  have c2 := (blk_cell hb 259).trans (mCells_steps modv tv mem fuel steps hm)
  have f2 := blk_frozen hb 259
  have t1 : decide (fuel ≤ steps) = false := decide_eq_false (by omega)
  clear hb hm
  go_enter Tryd.func73, Tryd.ntmps73
  go_wp2
  go_quiet (fail)
  go_wp2
  go_end0
  exact ⟨rfl, _, rfl⟩

set_option maxHeartbeats 1000000 in
theorem run_step.out (modv tv : Value) (mem : List Int) (fuel steps : Int) (g : Nat) (w : World) (hm : mem.length = 256) (hb : w.heap[g]? = some (.cells (mCells modv tv mem fuel steps) 73 (0, 0))) (h : fuel ≤ steps) :
    Calls Tryd.prog 73 #[.pointer (some ⟨g, 0, none⟩)] w fun e w' => e = .panicked [{ v := outV, recovered := false }] ∧ ∃ n, w' = w.drewN n := by
  have hu := Tryd.underlying73
  have c1 := (blk_cell hb 258).trans (mCells_fuel modv tv mem fuel steps hm)
  have c2 := (blk_cell hb 259).trans (mCells_steps modv tv mem fuel steps hm)
  have t1 : decide (fuel ≤ steps) = true := decide_eq_true (by omega)
  clear hb hm
  go_enter Tryd.func73, Tryd.ntmps73
  go_wp2
  go_quiet (fail)
  go_wp2
  first | exact ⟨rfl, rfl, _, rfl⟩ | exact ⟨⟨rfl, _, rfl⟩, rfl⟩ | exact ⟨rfl, ⟨_, rfl⟩, rfl⟩
end Go.Proofs.YtoilapjkgligfaaDoor.P
namespace Go.Proofs.YtoilapjkgligfaaDoor.P
set_option linter.unusedVariables false
open Go.RowKit Go.Proofs.YtoilapjkgligfaaDoorW.PrintWords Go.Proofs.YtoilapjkgligfaaDoorW.PrintLast Go.Proofs.YtoilapjkgligfaaDoorW.PrintMore

structure RunW (w0 : World) (g gr gf go gm : Nat) (modv : Value) (F O M : Array Value) (fuel : Int) (r mem told : List Int) (steps : Int) (w1 : World) : Prop where mk ::
  m : ∃ tv, w1.heap[g]? = some (.cells (mCells modv tv mem fuel steps) 73 (0, 0)) ∧ Kd.R (Kd.int .i64) 3 w1 w0.heap.size (fun k => k ≠ gr) tv told
  ml : mem.length = 256
  r : w1.heap[gr]? = some (.cells (r.map (Value.int .i64)).toArray 3 (0, 0))
  f : w1.heap[gf]? = some (.cells F 24 (0, 0))
  o : w1.heap[go]? = some (.cells O 35 (0, 0))
  p : w1.heap[gm]? = some (.cells M 70 (0, 0))
  b : Below w0.heap.size w0 w1
  hg : w0.heap.size ≤ g
  hr : w0.heap.size ≤ gr

section
variable {w0 : World} {g gr gf go gm : Nat} {modv : Value} {F O M : Array Value} {fuel : Int} {r mem told : List Int} {steps : Int} {w1 w2 : World}
theorem RunW.below (h : RunW w0 g gr gf go gm modv F O M fuel r mem told steps w1) (hb : Below w1.heap.size w1 w2) : RunW w0 g gr gf go gm modv F O M fuel r mem told steps w2 := by
  obtain ⟨⟨tv, h1, h2⟩, h3, h4, h5, h6, h7, h8, h9, h10⟩ := h
  exact ⟨⟨tv, blk_below h1 hb, Kd.R_below h2 hb⟩, h3, blk_below h4 hb, blk_below h5 hb, blk_below h6 hb, blk_below h7 hb, below_step h8 hb, h9, h10⟩
theorem RunW.alloc (h : RunW w0 g gr gf go gm modv F O M fuel r mem told steps w1) (o : Obj) : RunW w0 g gr gf go gm modv F O M fuel r mem told steps (w1.alloc o) := h.below (below_alloc (Below.refl _ _) o)
theorem RunW.drewN (h : RunW w0 g gr gf go gm modv F O M fuel r mem told steps w1) (n : Nat) : RunW w0 g gr gf go gm modv F O M fuel r mem told steps (w1.drewN n) := h.below (pw_below_drewN (Below.refl _ _) n)
theorem RunW.drew (h : RunW w0 g gr gf go gm modv F O M fuel r mem told steps w1) : RunW w0 g gr gf go gm modv F O M fuel r mem told steps w1.drew := h.below (below_drew (Below.refl _ _))
theorem RunW.gne (h : RunW w0 g gr gf go gm modv F O M fuel r mem told steps w1) : gr ≠ g ∧ gf ≠ g ∧ go ≠ g ∧ gm ≠ g := by
  obtain ⟨⟨tv, h1, h2⟩, h3, h4, h5, h6, h7, h8, h9, h10⟩ := h
  exact ⟨blk_ne h4 h1 (by decide), blk_ne h5 h1 (by decide), blk_ne h6 h1 (by decide), blk_ne h7 h1 (by decide)⟩
theorem RunW.rne (h : RunW w0 g gr gf go gm modv F O M fuel r mem told steps w1) : gf ≠ gr ∧ go ≠ gr ∧ gm ≠ gr := by
  obtain ⟨⟨tv, h1, h2⟩, h3, h4, h5, h6, h7, h8, h9, h10⟩ := h
  exact ⟨blk_ne h5 h4 (by decide), blk_ne h6 h4 (by decide), blk_ne h7 h4 (by decide)⟩
theorem RunW.setSteps (h : RunW w0 g gr gf go gm modv F O M fuel r mem told steps w1) (s : Int) : RunW w0 g gr gf go gm modv F O M fuel r mem told s (w1.setCell ⟨g, 259, none⟩ (.int .i64 s)) := by
  obtain ⟨n1, n2, n3, n4⟩ := h.gne
  obtain ⟨⟨tv, h1, h2⟩, h3, h4, h5, h6, h7, h8, h9, h10⟩ := h
  exact ⟨⟨tv, blk_put h1 259 _ (mCells_set_steps _ _ _ _ _ _ h3), Kd.R_set h2 h1 (by decide) _ _⟩, h3, blk_far h4 n1 _, blk_far h5 n2 _, blk_far h6 n3 _, blk_far h7 n4 _, below_set h8 h9, h9, h10⟩
theorem RunW.setMem (h : RunW w0 g gr gf go gm modv F O M fuel r mem told steps w1) (i : Nat) (v : Int) (hi : i < 256) : RunW w0 g gr gf go gm modv F O M fuel r (mem.set i v) told steps (w1.setCell ⟨g, 1 + i, none⟩ (.int .i64 v)) := by
  obtain ⟨n1, n2, n3, n4⟩ := h.gne
  obtain ⟨⟨tv, h1, h2⟩, h3, h4, h5, h6, h7, h8, h9, h10⟩ := h
  exact ⟨⟨tv, blk_put h1 (1 + i) _ (mCells_set_mem _ _ _ _ _ _ _ (by omega)), Kd.R_set h2 h1 (by decide) _ _⟩, by simpa using h3, blk_far h4 n1 _, blk_far h5 n2 _, blk_far h6 n3 _, blk_far h7 n4 _, below_set h8 h9, h9, h10⟩
theorem RunW.setR (h : RunW w0 g gr gf go gm modv F O M fuel r mem told steps w1) (i : Nat) (v : Int) (hi : i < r.length) : RunW w0 g gr gf go gm modv F O M fuel (r.set i v) mem told steps (w1.setCell ⟨gr, i, none⟩ (.int .i64 v)) := by
  obtain ⟨n1, n2, n3, n4⟩ := h.gne
  obtain ⟨r1, r2, r3⟩ := h.rne
  obtain ⟨⟨tv, h1, h2⟩, h3, h4, h5, h6, h7, h8, h9, h10⟩ := h
  exact ⟨⟨tv, blk_far h1 (Ne.symm n1) _, Kd.R_far (p := ⟨gr, i, none⟩) h2 (fun k hk => hk) _⟩, h3, blk_put h4 i _ (by simp), blk_far h5 r1 _, blk_far h6 r2 _, blk_far h7 r3 _, below_set h8 h10, h9, h10⟩
theorem RunW.rc (h : RunW w0 g gr gf go gm modv F O M fuel r mem told steps w1) (i : Nat) (hi : i < r.length) : w1.cell? ⟨gr, i, none⟩ = some (.int .i64 (rd r i)) := by
  rw [blk_cell h.r i]
  simp [rd, List.getElem?_eq_getElem hi]
theorem RunW.rf (h : RunW w0 g gr gf go gm modv F O M fuel r mem told steps w1) (i : Nat) : w1.frozen? ⟨gr, i, none⟩ = false := blk_frozen h.r i
theorem RunW.mc (h : RunW w0 g gr gf go gm modv F O M fuel r mem told steps w1) (i : Nat) (hi : i < 256) : w1.cell? ⟨g, 1 + i, none⟩ = some (.int .i64 (rd mem i)) := by
  obtain ⟨tv, h1, _⟩ := h.m
  exact (blk_cell h1 _).trans (mCells_mem _ _ _ _ _ _ (by rw [h.ml]; exact hi))
theorem RunW.mf (h : RunW w0 g gr gf go gm modv F O M fuel r mem told steps w1) (i : Nat) : w1.frozen? ⟨g, i, none⟩ = false := by
  obtain ⟨tv, h1, _⟩ := h.m
  exact blk_frozen h1 i
theorem RunW.grow {tv v1 : Value} {told' : List Int} (h : RunW w0 g gr gf go gm modv F O M fuel r mem told steps w1) (hm1 : w1.heap[g]? = some (.cells (mCells modv tv mem fuel steps) 73 (0, 0))) (hm2 : Kd.R (Kd.int .i64) 3 w1 w0.heap.size (fun k => k ≠ gr) tv told) (hg : w1.grownBy w2 tv.ownBlock) (hR : Kd.R (Kd.int .i64) 3 w2 w0.heap.size (fun k => k ≠ gr) v1 told') (hB : Below w0.heap.size w0 w2) : RunW w0 g gr gf go gm modv F O M fuel r mem told' steps (w2.setCell ⟨g, 257, none⟩ v1) := by
  obtain ⟨n1, n2, n3, n4⟩ := h.gne
  obtain ⟨_, h3, h4, h5, h6, h7, h8, h9, h10⟩ := h
  have g1 := blk_grown hm1 hg (Kd.R_ne hm2 hm1 (by decide))
  have g4 := blk_grown h4 hg (fun e => hm2.1 _ e.symm rfl)
  have g5 := blk_grown h5 hg (Kd.R_ne hm2 h5 (by decide))
  have g6 := blk_grown h6 hg (Kd.R_ne hm2 h6 (by decide))
  have g7 := blk_grown h7 hg (Kd.R_ne hm2 h7 (by decide))
  exact ⟨⟨v1, blk_put g1 257 _ (mCells_set_told _ _ _ _ _ _ h3), Kd.R_set hR g1 (by decide) _ _⟩, h3, blk_far g4 n1 _, blk_far g5 n2 _, blk_far g6 n3 _, blk_far g7 n4 _, below_set hB h9, h9, h10⟩
theorem RunW.setTold {tv' : Value} {told' : List Int} (h : RunW w0 g gr gf go gm modv F O M fuel r mem told steps w1) (hR : Kd.R (Kd.int .i64) 3 w1 w0.heap.size (fun k => k ≠ gr) tv' told') : RunW w0 g gr gf go gm modv F O M fuel r mem told' steps (w1.setCell ⟨g, 257, none⟩ tv') := by
  obtain ⟨n1, n2, n3, n4⟩ := h.gne
  obtain ⟨⟨tv, h1, h2⟩, h3, h4, h5, h6, h7, h8, h9, h10⟩ := h
  exact ⟨⟨tv', blk_put h1 257 _ (mCells_set_told _ _ _ _ _ _ h3), Kd.R_set hR h1 (by decide) _ _⟩, h3, blk_far h4 n1 _, blk_far h5 n2 _, blk_far h6 n3 _, blk_far h7 n4 _, below_set h8 h9, h9, h10⟩
end

def endOf (kind v : Int) : Ending := if kind = 1 then .returned (.int .i64 v) else if kind = 2 then .panicked [{ v := trapV, recovered := false }] else .panicked [{ v := outV, recovered := false }]
def CallPost (w0 : World) (g go gm : Nat) (modv : Value) (O M : Array Value) (fuel : Int) (res : Int × Int × List Int × List Int × Int) (e : Ending) (w' : World) : Prop :=
  e = endOf res.1 res.2.1 ∧ (∃ tv, w'.heap[g]? = some (.cells (mCells modv tv res.2.2.2.1 fuel res.2.2.2.2) 73 (0, 0)) ∧ Kd.R (Kd.int .i64) 3 w' w0.heap.size (fun _ => True) tv res.2.2.1) ∧ res.2.2.2.1.length = 256 ∧
    w'.heap[go]? = some (.cells O 35 (0, 0)) ∧ w'.heap[gm]? = some (.cells M 70 (0, 0)) ∧ Below w0.heap.size w0 w'
theorem RunW.post {w0 : World} {g gr gf go gm : Nat} {modv : Value} {F O M : Array Value} {fuel : Int} {r mem told : List Int} {steps : Int} {w1 : World} (h : RunW w0 g gr gf go gm modv F O M fuel r mem told steps w1) (kind v : Int) {e : Ending} (he : e = endOf kind v) : CallPost w0 g go gm modv O M fuel (kind, v, told, mem, steps) e w1 := by
  obtain ⟨⟨tv, h1, h2⟩, h3, h4, h5, h6, h7, h8, h9, h10⟩ := h
  exact ⟨he, ⟨tv, h1, Kd.R_mono h2 (fun _ _ => trivial)⟩, h3, h6, h7, h8⟩
end Go.Proofs.YtoilapjkgligfaaDoor.P
