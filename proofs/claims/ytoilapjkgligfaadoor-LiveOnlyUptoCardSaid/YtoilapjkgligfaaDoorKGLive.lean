import Derived.Test.YtoilapjkgligfaaDoorKP
import Derived.Test.YtoilapjkgligfaaDoorKGRunE
import Derived.Test.YtoilapjkgligfaaDoorKa4
import Derived.Test.YtoilapjkgligfaaDoorKa7
import Derived.Test.YtoilapjkgligfaaDoorKa9
namespace Go.Proofs.YtoilapjkgligfaaDoor.P
set_option linter.unusedVariables false
open Go.RowKit Go.Proofs.YtoilapjkgligfaaDoorW.PrintWords Go.Proofs.YtoilapjkgligfaaDoorW.PrintLast Go.Proofs.YtoilapjkgligfaaDoorW.PrintMore

abbrev Blocks := List (List S32)
def live_only.skip (k : Nat) (nm : ByteArray) (p r : Int) (l : Blocks) (args mem : List Int) : Option Bool :=
  (cubbylaw11_heavy.f k nm p r l).bind fun h => if h then some true else if 10 < args.length then some true else if 300 < mem.length then some true else
    (cubbyref11_Check.f k nm p r l).bind fun c => if c ≠ 0 then some true else cubbylaw11_calls.f k nm p r l

set_option maxHeartbeats 4000000 in
set_option maxRecDepth 100000 in
theorem live_only.early (k : Nat) (nm : ByteArray) (p r : Int) (l : Blocks) (A : Option Addr) (c : Nat) (value : Int) (args mem : List Int) (A2 : Option Addr) (c2 : Nat) (A3 : Option Addr) (c3 : Nat) (fuel : Int) (w : World) (hGS : GS w) (hr : Kd.C (Kd.slice 32 k32) w A l.length l) (hc : l.length ≤ c)
    (hs : live_only.skip k nm p r l args mem = some true) (he : live_Check.f k ByteArray.empty 0 0 [] = some 70) :
    Calls Tryd.prog 3 #[.agg #[.string nm, .int .i64 p, .int .i64 r, .slice A l.length c], .int .u16 value, .slice A2 args.length c2, .slice A3 mem.length c3, .int .u16 fuel] w fun e w' => e = .returned (.bool true) ∧ Below w.heap.size w w' := by
  have hu := Tryd.underlying24
  have HG := Aside0.mk hGS
  have HR := Aside0.mk hr
  have HE := Aside0.mk he
  unfold live_only.skip at hs
  obtain ⟨h, hh, hs⟩ := Option.bind_eq_some_iff.mp hs
  have HH := Aside0.mk hh
  clear hGS hr he hh
  go_enter Tryd.func3, Tryd.ntmps3
  cases h with
  | true =>
    clear hs
    go_upto_region 2 with ((go_at_call 7; refine (cubbylaw11_heavy.calls k nm p r A c l _ _ (Kd.C_below HR.out (below_alloc (Below.refl w.heap.size w) (.cells #[.string nm, .int .i64 p, .int .i64 r, .slice A l.length c] 24 (0, 0)))) hc HH.out).mono ?_; rintro e w1 ⟨rfl, hb⟩; have fw10 : w1.cell? ⟨w.heap.size, 0, none⟩ = some (.string nm) := (blk_cell (blk_below (blk_new w (.cells #[.string nm, .int .i64 p, .int .i64 r, .slice A l.length c] 24 (0, 0))) hb) 0).trans rfl; have fw11 : w1.cell? ⟨w.heap.size, 1, none⟩ = some (.int .i64 p) := (blk_cell (blk_below (blk_new w (.cells #[.string nm, .int .i64 p, .int .i64 r, .slice A l.length c] 24 (0, 0))) hb) 1).trans rfl; have fw12 : w1.cell? ⟨w.heap.size, 2, none⟩ = some (.int .i64 r) := (blk_cell (blk_below (blk_new w (.cells #[.string nm, .int .i64 p, .int .i64 r, .slice A l.length c] 24 (0, 0))) hb) 2).trans rfl; have fw13 : w1.cell? ⟨w.heap.size, 3, none⟩ = some (.slice A l.length c) := (blk_cell (blk_below (blk_new w (.cells #[.string nm, .int .i64 p, .int .i64 r, .slice A l.length c] 24 (0, 0))) hb) 3).trans rfl; have BK1 := Aside0.mk (blk_below (blk_new w (.cells #[.string nm, .int .i64 p, .int .i64 r, .slice A l.length c] 24 (0, 0))) hb); have HB1 := Aside0.mk (below_step (below_alloc (Below.refl w.heap.size w) (.cells #[.string nm, .int .i64 p, .int .i64 r, .slice A l.length c] 24 (0, 0))) hb); clear hb))
    go_wp2_with (go_at_call 10; refine (live_Check.calls k ByteArray.empty 0 0 none 0 [] 70 _ (HG.out.of_below HB1.out) ⟨rfl, by decide, fun h => absurd h (Nat.lt_irrefl 0)⟩ (Nat.le_refl _) HE.out).mono ?_; rintro e w9 ⟨rfl, hb9⟩)
    go_ret
    exact ⟨rfl, below_step HB1.out hb9⟩
  | false =>
    simp only [Bool.false_eq_true, if_false] at hs
    by_cases ha : 10 < args.length
    · clear hs
      go_upto_region 2 with ((go_at_call 7; refine (cubbylaw11_heavy.calls k nm p r A c l _ _ (Kd.C_below HR.out (below_alloc (Below.refl w.heap.size w) (.cells #[.string nm, .int .i64 p, .int .i64 r, .slice A l.length c] 24 (0, 0)))) hc HH.out).mono ?_; rintro e w1 ⟨rfl, hb⟩; have fw10 : w1.cell? ⟨w.heap.size, 0, none⟩ = some (.string nm) := (blk_cell (blk_below (blk_new w (.cells #[.string nm, .int .i64 p, .int .i64 r, .slice A l.length c] 24 (0, 0))) hb) 0).trans rfl; have fw11 : w1.cell? ⟨w.heap.size, 1, none⟩ = some (.int .i64 p) := (blk_cell (blk_below (blk_new w (.cells #[.string nm, .int .i64 p, .int .i64 r, .slice A l.length c] 24 (0, 0))) hb) 1).trans rfl; have fw12 : w1.cell? ⟨w.heap.size, 2, none⟩ = some (.int .i64 r) := (blk_cell (blk_below (blk_new w (.cells #[.string nm, .int .i64 p, .int .i64 r, .slice A l.length c] 24 (0, 0))) hb) 2).trans rfl; have fw13 : w1.cell? ⟨w.heap.size, 3, none⟩ = some (.slice A l.length c) := (blk_cell (blk_below (blk_new w (.cells #[.string nm, .int .i64 p, .int .i64 r, .slice A l.length c] 24 (0, 0))) hb) 3).trans rfl; have BK1 := Aside0.mk (blk_below (blk_new w (.cells #[.string nm, .int .i64 p, .int .i64 r, .slice A l.length c] 24 (0, 0))) hb); have HB1 := Aside0.mk (below_step (below_alloc (Below.refl w.heap.size w) (.cells #[.string nm, .int .i64 p, .int .i64 r, .slice A l.length c] 24 (0, 0))) hb); clear hb))
      go_wp2_with (go_at_call 10; refine (live_Check.calls k ByteArray.empty 0 0 none 0 [] 70 _ (HG.out.of_below HB1.out) ⟨rfl, by decide, fun h => absurd h (Nat.lt_irrefl 0)⟩ (Nat.le_refl _) HE.out).mono ?_; rintro e w9 ⟨rfl, hb9⟩)
      go_ret
      exact ⟨rfl, below_step HB1.out hb9⟩
    · rw [if_neg ha] at hs
      by_cases hm : 300 < mem.length
      · clear hs
        go_upto_region 2 with ((go_at_call 7; refine (cubbylaw11_heavy.calls k nm p r A c l _ _ (Kd.C_below HR.out (below_alloc (Below.refl w.heap.size w) (.cells #[.string nm, .int .i64 p, .int .i64 r, .slice A l.length c] 24 (0, 0)))) hc HH.out).mono ?_; rintro e w1 ⟨rfl, hb⟩; have fw10 : w1.cell? ⟨w.heap.size, 0, none⟩ = some (.string nm) := (blk_cell (blk_below (blk_new w (.cells #[.string nm, .int .i64 p, .int .i64 r, .slice A l.length c] 24 (0, 0))) hb) 0).trans rfl; have fw11 : w1.cell? ⟨w.heap.size, 1, none⟩ = some (.int .i64 p) := (blk_cell (blk_below (blk_new w (.cells #[.string nm, .int .i64 p, .int .i64 r, .slice A l.length c] 24 (0, 0))) hb) 1).trans rfl; have fw12 : w1.cell? ⟨w.heap.size, 2, none⟩ = some (.int .i64 r) := (blk_cell (blk_below (blk_new w (.cells #[.string nm, .int .i64 p, .int .i64 r, .slice A l.length c] 24 (0, 0))) hb) 2).trans rfl; have fw13 : w1.cell? ⟨w.heap.size, 3, none⟩ = some (.slice A l.length c) := (blk_cell (blk_below (blk_new w (.cells #[.string nm, .int .i64 p, .int .i64 r, .slice A l.length c] 24 (0, 0))) hb) 3).trans rfl; have BK1 := Aside0.mk (blk_below (blk_new w (.cells #[.string nm, .int .i64 p, .int .i64 r, .slice A l.length c] 24 (0, 0))) hb); have HB1 := Aside0.mk (below_step (below_alloc (Below.refl w.heap.size w) (.cells #[.string nm, .int .i64 p, .int .i64 r, .slice A l.length c] 24 (0, 0))) hb); clear hb))
        go_wp2_with (go_at_call 10; refine (live_Check.calls k ByteArray.empty 0 0 none 0 [] 70 _ (HG.out.of_below HB1.out) ⟨rfl, by decide, fun h => absurd h (Nat.lt_irrefl 0)⟩ (Nat.le_refl _) HE.out).mono ?_; rintro e w9 ⟨rfl, hb9⟩)
        go_ret
        exact ⟨rfl, below_step HB1.out hb9⟩
      · rw [if_neg hm] at hs
        obtain ⟨ck, hck, hs⟩ := Option.bind_eq_some_iff.mp hs
        have HC := Aside0.mk hck
        clear hck
        by_cases h0 : ck = 0
        · rw [if_neg (by simpa using h0)] at hs
          subst h0
          have HS := Aside0.mk hs
          clear hs
          go_upto_region 2 with (first | (go_at_call 7; refine (cubbylaw11_heavy.calls k nm p r A c l _ _ (Kd.C_below HR.out (below_alloc (Below.refl w.heap.size w) (.cells #[.string nm, .int .i64 p, .int .i64 r, .slice A l.length c] 24 (0, 0)))) hc HH.out).mono ?_; rintro e w1 ⟨rfl, hb⟩; have fw10 : w1.cell? ⟨w.heap.size, 0, none⟩ = some (.string nm) := (blk_cell (blk_below (blk_new w (.cells #[.string nm, .int .i64 p, .int .i64 r, .slice A l.length c] 24 (0, 0))) hb) 0).trans rfl; have fw11 : w1.cell? ⟨w.heap.size, 1, none⟩ = some (.int .i64 p) := (blk_cell (blk_below (blk_new w (.cells #[.string nm, .int .i64 p, .int .i64 r, .slice A l.length c] 24 (0, 0))) hb) 1).trans rfl; have fw12 : w1.cell? ⟨w.heap.size, 2, none⟩ = some (.int .i64 r) := (blk_cell (blk_below (blk_new w (.cells #[.string nm, .int .i64 p, .int .i64 r, .slice A l.length c] 24 (0, 0))) hb) 2).trans rfl; have fw13 : w1.cell? ⟨w.heap.size, 3, none⟩ = some (.slice A l.length c) := (blk_cell (blk_below (blk_new w (.cells #[.string nm, .int .i64 p, .int .i64 r, .slice A l.length c] 24 (0, 0))) hb) 3).trans rfl; have BK1 := Aside0.mk (blk_below (blk_new w (.cells #[.string nm, .int .i64 p, .int .i64 r, .slice A l.length c] 24 (0, 0))) hb); have HB1 := Aside0.mk (below_step (below_alloc (Below.refl w.heap.size w) (.cells #[.string nm, .int .i64 p, .int .i64 r, .slice A l.length c] 24 (0, 0))) hb); clear hb) | (go_at_call 8; refine (cubbyref11_Check.calls k nm p r A c l _ _ (Kd.C_below HR.out HB1.out) hc HC.out).mono ?_; rintro e w2 ⟨rfl, hb⟩; have fw20 : w2.cell? ⟨w.heap.size, 0, none⟩ = some (.string nm) := (blk_cell (blk_below BK1.out hb) 0).trans rfl; have fw21 : w2.cell? ⟨w.heap.size, 1, none⟩ = some (.int .i64 p) := (blk_cell (blk_below BK1.out hb) 1).trans rfl; have fw22 : w2.cell? ⟨w.heap.size, 2, none⟩ = some (.int .i64 r) := (blk_cell (blk_below BK1.out hb) 2).trans rfl; have fw23 : w2.cell? ⟨w.heap.size, 3, none⟩ = some (.slice A l.length c) := (blk_cell (blk_below BK1.out hb) 3).trans rfl; have BK2 := Aside0.mk (blk_below BK1.out hb); have HB2 := Aside0.mk (below_step HB1.out hb); clear hb) | (go_at_call 9; refine (cubbylaw11_calls.calls k nm p r A c l _ _ (Kd.C_below HR.out HB2.out) hc HS.out).mono ?_; rintro e w3 ⟨rfl, hb⟩; have fw30 : w3.cell? ⟨w.heap.size, 0, none⟩ = some (.string nm) := (blk_cell (blk_below BK2.out hb) 0).trans rfl; have fw31 : w3.cell? ⟨w.heap.size, 1, none⟩ = some (.int .i64 p) := (blk_cell (blk_below BK2.out hb) 1).trans rfl; have fw32 : w3.cell? ⟨w.heap.size, 2, none⟩ = some (.int .i64 r) := (blk_cell (blk_below BK2.out hb) 2).trans rfl; have fw33 : w3.cell? ⟨w.heap.size, 3, none⟩ = some (.slice A l.length c) := (blk_cell (blk_below BK2.out hb) 3).trans rfl; have BK3 := Aside0.mk (blk_below BK2.out hb); have HB3 := Aside0.mk (below_step HB2.out hb); clear hb))
          go_wp2_with (go_at_call 10; refine (live_Check.calls k ByteArray.empty 0 0 none 0 [] 70 _ (HG.out.of_below HB3.out) ⟨rfl, by decide, fun h => absurd h (Nat.lt_irrefl 0)⟩ (Nat.le_refl _) HE.out).mono ?_; rintro e w9 ⟨rfl, hb9⟩)
          go_ret
          exact ⟨rfl, below_step HB3.out hb9⟩
        · clear hs
          have t0 : (ck == 0) = false := by simpa using h0
          have t1 : (ck != 0) = true := by simpa using h0
          go_upto_region 2 with (first | (go_at_call 7; refine (cubbylaw11_heavy.calls k nm p r A c l _ _ (Kd.C_below HR.out (below_alloc (Below.refl w.heap.size w) (.cells #[.string nm, .int .i64 p, .int .i64 r, .slice A l.length c] 24 (0, 0)))) hc HH.out).mono ?_; rintro e w1 ⟨rfl, hb⟩; have fw10 : w1.cell? ⟨w.heap.size, 0, none⟩ = some (.string nm) := (blk_cell (blk_below (blk_new w (.cells #[.string nm, .int .i64 p, .int .i64 r, .slice A l.length c] 24 (0, 0))) hb) 0).trans rfl; have fw11 : w1.cell? ⟨w.heap.size, 1, none⟩ = some (.int .i64 p) := (blk_cell (blk_below (blk_new w (.cells #[.string nm, .int .i64 p, .int .i64 r, .slice A l.length c] 24 (0, 0))) hb) 1).trans rfl; have fw12 : w1.cell? ⟨w.heap.size, 2, none⟩ = some (.int .i64 r) := (blk_cell (blk_below (blk_new w (.cells #[.string nm, .int .i64 p, .int .i64 r, .slice A l.length c] 24 (0, 0))) hb) 2).trans rfl; have fw13 : w1.cell? ⟨w.heap.size, 3, none⟩ = some (.slice A l.length c) := (blk_cell (blk_below (blk_new w (.cells #[.string nm, .int .i64 p, .int .i64 r, .slice A l.length c] 24 (0, 0))) hb) 3).trans rfl; have BK1 := Aside0.mk (blk_below (blk_new w (.cells #[.string nm, .int .i64 p, .int .i64 r, .slice A l.length c] 24 (0, 0))) hb); have HB1 := Aside0.mk (below_step (below_alloc (Below.refl w.heap.size w) (.cells #[.string nm, .int .i64 p, .int .i64 r, .slice A l.length c] 24 (0, 0))) hb); clear hb) | (go_at_call 8; refine (cubbyref11_Check.calls k nm p r A c l _ _ (Kd.C_below HR.out HB1.out) hc HC.out).mono ?_; rintro e w2 ⟨rfl, hb⟩; have fw20 : w2.cell? ⟨w.heap.size, 0, none⟩ = some (.string nm) := (blk_cell (blk_below BK1.out hb) 0).trans rfl; have fw21 : w2.cell? ⟨w.heap.size, 1, none⟩ = some (.int .i64 p) := (blk_cell (blk_below BK1.out hb) 1).trans rfl; have fw22 : w2.cell? ⟨w.heap.size, 2, none⟩ = some (.int .i64 r) := (blk_cell (blk_below BK1.out hb) 2).trans rfl; have fw23 : w2.cell? ⟨w.heap.size, 3, none⟩ = some (.slice A l.length c) := (blk_cell (blk_below BK1.out hb) 3).trans rfl; have BK2 := Aside0.mk (blk_below BK1.out hb); have HB2 := Aside0.mk (below_step HB1.out hb); clear hb))
          go_wp2_with (go_at_call 10; refine (live_Check.calls k ByteArray.empty 0 0 none 0 [] 70 _ (HG.out.of_below HB2.out) ⟨rfl, by decide, fun h => absurd h (Nat.lt_irrefl 0)⟩ (Nat.le_refl _) HE.out).mono ?_; rintro e w9 ⟨rfl, hb9⟩)
          go_ret
          exact ⟨rfl, below_step HB2.out hb9⟩
end Go.Proofs.YtoilapjkgligfaaDoor.P
