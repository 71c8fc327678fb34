import Derived.Test.YtoilapjkgligfaaDoorKP
import Derived.Test.YtoilapjkgligfaaDoorKGLive
import Derived.Test.YtoilapjkgligfaaDoorKa10
import Derived.Deep.RegionHeld3
namespace Go.Proofs.YtoilapjkgligfaaDoor.P
set_option linter.unusedVariables false
open Go.RowKit Go.Proofs.YtoilapjkgligfaaDoorW.PrintWords Go.Proofs.YtoilapjkgligfaaDoorW.PrintLast Go.Proofs.YtoilapjkgligfaaDoorW.PrintMore

set_option maxHeartbeats 8000000 in
set_option maxRecDepth 100000 in
theorem live_only.rest (k : Nat) (nm : ByteArray) (p r : Int) (l : Blocks) (A : Option Addr) (c : Nat) (value : Int) (args mem : List Int) (A2 : Option Addr) (c2 : Nat) (A3 : Option Addr) (c3 : Nat) (fuel : Int) (w : World) (hGS : GS w) (hr : Kd.C (Kd.slice 32 k32) w A l.length l) (hc : l.length ≤ c) (hp0 : 0 ≤ p) (hpr : p ≤ r) (hr1 : r ≤ 100000) (hv0 : 0 ≤ value) (hv1 : value < 65536) (hgo : Goals l) (hfu0 : 0 ≤ fuel) (hfu1 : fuel < 65536) (hA2 : Kd.C (Kd.int .i64) w A2 args.length args) (hA3 : Kd.C (Kd.int .i64) w A3 mem.length mem) (hc3 : mem.length ≤ c3) (e9 : Int) (hcg : cubbyref07_Check.f k nm p r (madeL value p r l) = some e9) (hrun : e9 = 0 → LiveRuns k nm p r l (madeL value p r l) args mem (fuel % 1000) ((r - p).toNat + 1))
    (hh : cubbylaw11_heavy.f k nm p r l = some false) (ha : args.length ≤ 10) (hm : mem.length ≤ 300) (hck : cubbyref11_Check.f k nm p r l = some 0) (hcl : cubbylaw11_calls.f k nm p r l = some false) (he : live_Check.f k nm p r l = some 0) :
    Calls Tryd.prog 3 #[.agg #[.string nm, .int .i64 p, .int .i64 r, .slice A l.length c], .int .u16 value, .slice A2 args.length c2, .slice A3 mem.length c3, .int .u16 fuel] w fun e w' => e = .returned (.bool true) ∧ Below w.heap.size w w' := by
  have hu := Tryd.underlying24
  have hui := Tryd.underlying32
  have HG := Aside0.mk hGS
  have HR := Aside0.mk hr
  have HE := Aside0.mk he
  have HH := Aside0.mk hh
  have HC := Aside0.mk hck
  have HS := Aside0.mk hcl
  have HQ := Aside0.mk hgo
  have HCG := Aside0.mk hcg
  have HRU := Aside0.mk hrun
  have HA2 := Aside0.mk hA2
  have HA3 := Aside0.mk hA3
  clear hGS hr he hh hck hcl hgo hcg hrun hA2 hA3
  go_enter Tryd.func3, Tryd.ntmps3
  go_upto_region 3 with (first | (go_at_call 7; refine (cubbylaw11_heavy.calls k nm p r A c l _ _ (Kd.C_below HR.out (below_alloc (Below.refl w.heap.size w) (.cells #[.string nm, .int .i64 p, .int .i64 r, .slice A l.length c] 24 (0, 0)))) hc HH.out).mono ?_; rintro e w1 ⟨rfl, hb⟩; have fw10 : w1.cell? ⟨w.heap.size, 0, none⟩ = some (.string nm) := (blk_cell (blk_below (blk_new w (.cells #[.string nm, .int .i64 p, .int .i64 r, .slice A l.length c] 24 (0, 0))) hb) 0).trans rfl; have fw11 : w1.cell? ⟨w.heap.size, 1, none⟩ = some (.int .i64 p) := (blk_cell (blk_below (blk_new w (.cells #[.string nm, .int .i64 p, .int .i64 r, .slice A l.length c] 24 (0, 0))) hb) 1).trans rfl; have fw12 : w1.cell? ⟨w.heap.size, 2, none⟩ = some (.int .i64 r) := (blk_cell (blk_below (blk_new w (.cells #[.string nm, .int .i64 p, .int .i64 r, .slice A l.length c] 24 (0, 0))) hb) 2).trans rfl; have fw13 : w1.cell? ⟨w.heap.size, 3, none⟩ = some (.slice A l.length c) := (blk_cell (blk_below (blk_new w (.cells #[.string nm, .int .i64 p, .int .i64 r, .slice A l.length c] 24 (0, 0))) hb) 3).trans rfl; have BK1 := Aside0.mk (blk_below (blk_new w (.cells #[.string nm, .int .i64 p, .int .i64 r, .slice A l.length c] 24 (0, 0))) hb); have HB1 := Aside0.mk (below_step (below_alloc (Below.refl w.heap.size w) (.cells #[.string nm, .int .i64 p, .int .i64 r, .slice A l.length c] 24 (0, 0))) hb); clear hb) | (go_at_call 8; refine (cubbyref11_Check.calls k nm p r A c l _ _ (Kd.C_below HR.out HB1.out) hc HC.out).mono ?_; rintro e w2 ⟨rfl, hb⟩; have fw20 : w2.cell? ⟨w.heap.size, 0, none⟩ = some (.string nm) := (blk_cell (blk_below BK1.out hb) 0).trans rfl; have fw21 : w2.cell? ⟨w.heap.size, 1, none⟩ = some (.int .i64 p) := (blk_cell (blk_below BK1.out hb) 1).trans rfl; have fw22 : w2.cell? ⟨w.heap.size, 2, none⟩ = some (.int .i64 r) := (blk_cell (blk_below BK1.out hb) 2).trans rfl; have fw23 : w2.cell? ⟨w.heap.size, 3, none⟩ = some (.slice A l.length c) := (blk_cell (blk_below BK1.out hb) 3).trans rfl; have BK2 := Aside0.mk (blk_below BK1.out hb); have HB2 := Aside0.mk (below_step HB1.out hb); clear hb) | (go_at_call 9; refine (cubbylaw11_calls.calls k nm p r A c l _ _ (Kd.C_below HR.out HB2.out) hc HS.out).mono ?_; rintro e w3 ⟨rfl, hb⟩; have fw30 : w3.cell? ⟨w.heap.size, 0, none⟩ = some (.string nm) := (blk_cell (blk_below BK2.out hb) 0).trans rfl; have fw31 : w3.cell? ⟨w.heap.size, 1, none⟩ = some (.int .i64 p) := (blk_cell (blk_below BK2.out hb) 1).trans rfl; have fw32 : w3.cell? ⟨w.heap.size, 2, none⟩ = some (.int .i64 r) := (blk_cell (blk_below BK2.out hb) 2).trans rfl; have fw33 : w3.cell? ⟨w.heap.size, 3, none⟩ = some (.slice A l.length c) := (blk_cell (blk_below BK2.out hb) 3).trans rfl; have BK3 := Aside0.mk (blk_below BK2.out hb); have HB3 := Aside0.mk (below_step HB2.out hb); clear hb))
  go_upto_region 5 with (go_at_call 10; refine (live_Check.calls k nm p r A c l 0 _ (HG.out.of_below HB3.out) (Kd.C_below HR.out HB3.out) hc HE.out).mono ?_; rintro e w4 ⟨rfl, hb⟩; have fw40 : w4.cell? ⟨w.heap.size, 0, none⟩ = some (.string nm) := (blk_cell (blk_below BK3.out hb) 0).trans rfl; have fw41 : w4.cell? ⟨w.heap.size, 1, none⟩ = some (.int .i64 p) := (blk_cell (blk_below BK3.out hb) 1).trans rfl; have fw42 : w4.cell? ⟨w.heap.size, 2, none⟩ = some (.int .i64 r) := (blk_cell (blk_below BK3.out hb) 2).trans rfl; have fw43 : w4.cell? ⟨w.heap.size, 3, none⟩ = some (.slice A l.length c) := (blk_cell (blk_below BK3.out hb) 3).trans rfl; have BK4 := Aside0.mk (blk_below BK3.out hb); have HB4 := Aside0.mk (below_step HB3.out hb); clear hb)
  go_upto_region 6 with (fail)
  obtain ⟨w5, hw5⟩ : ∃ w5 : World, w5 = w4.alloc (.cells #[.string nm, .int .i64 p, .int .i64 r, .slice none 0 0] 24 (0, 0)) := ⟨_, rfl⟩
  have HGB := Aside0.mk (show w5.heap[w4.heap.size]? = some (.cells #[.string nm, .int .i64 p, .int .i64 r, .slice none 0 0] 24 (0, 0)) by rw [hw5]; exact blk_new _ _)
  have HF5 := Aside0.mk (show w5.heap[w.heap.size]? = some (.cells #[.string nm, .int .i64 p, .int .i64 r, .slice A l.length c] 24 (0, 0)) by rw [hw5]; exact blk_alloc BK4.out _)
  have HB5 := Aside0.mk (show Below w.heap.size w w5 by rw [hw5]; exact below_alloc HB4.out _)
  rw [← hw5]
  have hgg := blk_lt BK4.out
  clear hw5 fw40 fw41 fw42 fw43 fw30 fw31 fw32 fw33 fw20 fw21 fw22 fw23 fw10 fw11 fw12 fw13 BK1 BK2 BK3 BK4 HB1 HB2 HB3 HB4
  generalize w4.heap.size = gg at HGB hgg ⊢
  go_upto_region 7 with ((with_reducible refine gate_dst (N := 57) rfl ?_); refine Kd.R_lit (Kd.fixed k32 w) w.heap.size 32 ?hg (N := 57) ?hd (xs := []) (inner := []) (ok := fun _ => True) (okp := fun _ => True) ?hr ?hp (fun _ hk => hk) trivial HB5.out HB5.out.size (by simp) ?_; (case hd => rfl); (case hg => rfl); (case hr => first | (go_simp; done) | (go_simp; rfl)); (case hp => exact (Reps.none _ _)); intro v12 w6 hR6 hB6 hg6 hn6; have HR6 := Aside0.mk hR6; have HB6 := Aside0.mk hB6; have HGB6 := Aside0.mk (blk_below HGB.out (below_grown_none hg6)); have HF6 := Aside0.mk (blk_below HF5.out (below_grown_none hg6)); clear hR6 hB6 hg6 hn6)
  clear HB5 HGB HF5
  have p1 : w6.cell? ⟨w.heap.size, 1, none⟩ = some (.int .i64 p) := (blk_cell HF6.out 1).trans rfl
  go_wp2
  clear p1
  go_loopw [12, 13] (fun v12 v13 wr => ∃ i : Nat, v13 = .int .i64 (p + (i : Int)) ∧ i ≤ (r - p).toNat ∧ Aside0 (Kd.R (Kd.fixed k32 w) 32 wr w.heap.size (fun _ => True) v12 ((List.range i).map fun (i : Nat) => (⟨1, p + (i : Int), value, 0, ByteArray.empty, []⟩ : S32))) ∧ Aside0 (wr.heap[gg]? = some (.cells #[.string nm, .int .i64 p, .int .i64 r, .slice none 0 0] 24 (0, 0))) ∧ Aside0 (wr.heap[w.heap.size]? = some (.cells #[.string nm, .int .i64 p, .int .i64 r, .slice A l.length c] 24 (0, 0))) ∧ Aside0 (Below w.heap.size w wr)) (fun _ v13 _ => (r - intOf v13).toNat)
  case atStart => exact ⟨0, by simp, Nat.zero_le _, HR6, HGB6, HF6, HB6⟩
  case round =>
    clear HR6 HGB6 HF6 HB6
    obtain ⟨i, rfl, hi, HRr, HGr, HFr, HBr⟩ := hrel
    have r1 : wr.cell? ⟨w.heap.size, 2, none⟩ = some (.int .i64 r) := (blk_cell HFr.out 2).trans rfl
    by_cases hlt : p + (i : Int) < r
    · have hf := HRr.out
      obtain ⟨A12, c12, rfl⟩ := Kd.R_slice hf
      clear hf
      have hln : ((List.range i).map fun (i : Nat) => (⟨1, p + (i : Int), value, 0, ByteArray.empty, []⟩ : S32)).length = i := by simp
      have hki : (Kd.int .i64).C w none (⟨1, p + (i : Int), value, 0, ByteArray.empty, []⟩ : S32).f5.length (⟨1, p + (i : Int), value, 0, ByteArray.empty, []⟩ : S32).f5 := ⟨rfl, Nat.zero_le _, fun h => absurd h (Nat.lt_irrefl 0)⟩
      have HKi := Aside0.mk (show k32.K w ⟨1, p + (i : Int), value, 0, ByteArray.empty, []⟩ [.int .i64 1, .int .i64 (p + (i : Int)), .int .i64 value, .int .i64 0, .string ByteArray.empty, .slice none 0 0] from k32_mk w ⟨1, p + (i : Int), value, 0, ByteArray.empty, []⟩ (Nat.le_refl _) hki)
      clear hki
      go_upto_region 9 with ((with_reducible refine gate_builtin (b := .append) (xs := #[.tmp 66, .tmp 71]) rfl ?_); at_builtin; go_must (refine Kd.R_append (Kd.fixed k32 w) (w0 := w) w.heap.size rfl (.tmp 66) (.tmp 71) 30 32 (.agg #[.int .i64 0, .int .i64 0, .int .i64 0, .int .i64 0, .string ⟨#[]⟩, .slice none 0 0]) 72 rfl Tryd.underlying30 info32 rfl (show 0 < 6 by decide) (by omega) _ ((List.range i).map fun (i : Nat) => (⟨1, p + (i : Int), value, 0, ByteArray.empty, []⟩ : S32)) ⟨1, p + (i : Int), value, 0, ByteArray.empty, []⟩ [.int .i64 1, .int .i64 (p + (i : Int)), .int .i64 value, .int .i64 0, .string ByteArray.empty, .slice none 0 0] (fun _ => True) (fun _ => False) rfl rfl HKi.out (fun _ hk => hk.elim) (fun _ _ => trivial) HRr.out HBr.out HBr.out.size (by rw [hln]; omega) ?_); intro v1 w9 hR9 hB9 hg9 hat9; have HR9 := Aside0.mk hR9; have HB9 := Aside0.mk hB9; have HG9 := Aside0.mk (blk_grown HGr.out hg9 (Kd.R_ne HRr.out HGr.out (by decide))); have HF9 := Aside0.mk (blk_grown HFr.out hg9 (Kd.R_ne HRr.out HFr.out (by decide))); clear hR9 hB9 hg9 hat9)
      go_wp2
      go_roundw
      case rel =>
        refine ⟨i + 1, by go_num, by omega, ⟨?_⟩, HG9, HF9, HB9⟩
        rw [List.range_succ, List.map_append]
        exact HR9.out
      case measure => simp [intOf]; omega
    · have hie : i = (r - p).toNat := by omega
      subst hie
      have hf := HRr.out
      obtain ⟨A12, c12, rfl⟩ := Kd.R_slice hf
      clear hf
      have hln : (firstL value p r).length = (r - p).toNat := by simp [firstL]
      have HRf := Aside0.mk (show Kd.R (Kd.fixed k32 w) 32 wr w.heap.size (fun _ => True) (.slice A12 (r - p).toNat c12) (firstL value p r) from by have h := HRr.out; rw [List.length_map, List.length_range] at h; exact h)
      have hki : (Kd.int .i64).C w none (⟨12, 0, 1, 0, ByteArray.empty, []⟩ : S32).f5.length (⟨12, 0, 1, 0, ByteArray.empty, []⟩ : S32).f5 := ⟨rfl, Nat.zero_le _, fun h => absurd h (Nat.lt_irrefl 0)⟩
      have HKi := Aside0.mk (show k32.K w jumpI [.int .i64 12, .int .i64 0, .int .i64 1, .int .i64 0, .string ByteArray.empty, .slice none 0 0] from k32_mk w (⟨12, 0, 1, 0, ByteArray.empty, []⟩ : S32) (Nat.le_refl _) hki)
      clear hki
      go_upto_region 11 with (fail)
      clear hlt
      generalize p + (((r - p).toNat : Nat) : Int) = z13
      have g3 : wr.cell? ⟨gg, 3, none⟩ = some (.slice none 0 0) := (blk_cell HGr.out 3).trans rfl
      have gz := blk_frozen HGr.out 3
      have gA : ∀ o, (wr.alloc o).drew.cell? ⟨gg, 3, none⟩ = some (.slice none 0 0) := fun o => (blk_cell (blk_alloc HGr.out o) 3).trans rfl
      have hln9 : (firstL value p r ++ [jumpI]).length = (r - p).toNat + 1 := by simp [firstL]
      go_cut [12] (fun v12 wc => ∃ A10 c10, Aside0 (LiveW w gg nm p r l A c A10 c10 [firstL value p r ++ [jumpI]] wc))
      case first =>
        go_region_law (first
          | (refine Kd.R_append_step (Kd.fixed k32 w) (w0 := w) (W := wr.drew) w.heap.size (by rfl) (.tmp 75) (.tmp 77) 30 32 (.agg #[.int .i64 0, .int .i64 0, .int .i64 0, .int .i64 0, .string ⟨#[]⟩, .slice none 0 0]) 72 (by rfl) Tryd.underlying30 info32 rfl (show 0 < 6 by decide) (by omega) (.slice A12 (r - p).toNat c12) (firstL value p r) jumpI [.int .i64 12, .int .i64 0, .int .i64 1, .int .i64 0, .string ByteArray.empty, .slice none 0 0] (fun _ => True) (fun _ => False) (by rfl) (by rfl) HKi.out (fun _ hk => hk.elim) (fun _ _ => trivial) (Kd.R_drew HRf.out) (below_drew HBr.out) HBr.out.size (by rw [hln]; omega) ?_; intro v1 w9 hR9 hB9 hg9 hat9; obtain ⟨A9, c9, rfl⟩ := Kd.R_slice hR9; rw [hln9] at hR9 ⊢; have HR9 := Aside0.mk hR9; have HB9 := Aside0.mk hB9; have HG9 := Aside0.mk (blk_grown (blk_drew HGr.out) hg9 (Kd.R_ne (Kd.R_drew HRf.out) (blk_drew HGr.out) (by decide))); have HF9 := Aside0.mk (blk_grown (blk_drew HFr.out) hg9 (Kd.R_ne (Kd.R_drew HRf.out) (blk_drew HFr.out) (by decide))); have g39 : w9.cell? ⟨gg, 3, none⟩ = some (.slice none 0 0) := (blk_cell HG9.out 3).trans rfl; have gz9 := blk_frozen HG9.out 3; have gB : ∀ o, (w9.alloc o).cell? ⟨gg, 3, none⟩ = some (.slice none 0 0) := fun o => (blk_cell (blk_alloc HG9.out o) 3).trans rfl; clear hR9 hB9 hg9 hat9)
          | (refine Kd.R_append_step (Kd.slice 32 (Kd.fixed k32 w)) (w0 := w) (W := w9) w.heap.size (by rfl) (.tmp 74) (.tmp 79) 22 30 (.slice none 0 0) 24 (by rfl) Tryd.underlying22 info30 rfl (show 0 < 1 by decide) (by omega) (.slice none 0 0) [] (firstL value p r ++ [jumpI]) [.slice A9 ((r - p).toNat + 1) c9] (fun _ => True) (fun _ => True) (by rfl) (by rfl) ⟨_, rfl, HR9.out⟩ (fun _ _ => ⟨trivial, fun h => by cases h⟩) (fun _ _ => trivial) (Kd.R_nil _ _ _ _ _) HB9.out HB9.out.size (by decide) ?_; intro v2 w10 hR10 hB10 hg10 hat10; obtain ⟨A10, c10, rfl⟩ := Kd.R_slice hR10; have HR10 := Aside0.mk hR10; have HB10 := Aside0.mk hB10; have HG10 := Aside0.mk (blk_below HG9.out (below_grown_none hg10)); have HF10 := Aside0.mk (blk_below HF9.out (below_grown_none hg10)); have g310 : w10.cell? ⟨gg, 3, none⟩ = some (.slice none 0 0) := (blk_cell HG10.out 3).trans rfl; have gz10 := blk_frozen HG10.out 3; clear hR10 hB10 hg10 hat10))
        all_goals
          try go_wp2
          go_meet
          case rel => exact ⟨_, _, ⟨LiveW.put HR10.out HG10.out HF10.out HB10.out hgg⟩⟩
      case rest =>
        obtain ⟨A10, c10, HL⟩ := hcut
        clear HRr HGr HFr HBr HRf HKi g3 gz gA hln9 hln hi r1
        go_wp2
        go_loopg [14] l.length (fun kq v14 wr => ∃ (i : Nat) (Ag : Option Addr) (cg : Nat), v14 = .int .i64 (i : Int) ∧ i ≤ l.length ∧ Aside0 (kq = l.length - i) ∧ Aside0 (LiveW w gg nm p r l A c Ag cg ((firstL value p r ++ [jumpI]) :: (l.take i).map (·.map shiftI)) wr))
        case atStart => exact ⟨0, A10, c10, rfl, Nat.zero_le _, ⟨rfl⟩, HL⟩
        case round =>
          obtain ⟨i, Ag, cg, rfl, hi, HK, HL2⟩ := hrel
          clear HL
          obtain ⟨wo, rfl⟩ : ∃ wo : World, wo = wr := ⟨_, rfl⟩
          obtain ⟨gl, hgl⟩ : ∃ gl, (firstL value p r ++ [jumpI]) :: (l.take i).map (·.map shiftI) = gl := ⟨_, rfl⟩
          have HGL := Aside0.mk hgl
          have hqn := HQ.out.n
          have Hgn := Aside0.mk (show gl.length ≤ 100001 by rw [← hgl]; have := HQ.out.n; simp; omega)
          rw [hgl] at HL2
          clear hgl
          have f3 : wo.cell? ⟨w.heap.size, 3, none⟩ = some (.slice A l.length c) := (blk_cell HL2.out.f 3).trans rfl
          by_cases hlt2 : i < l.length
          · go_upto_region 16 with ((with_reducible refine gate_dst (N := 89) rfl ?_); refine Kd.R_lit (Kd.fixed k32 w) (w0 := wo) wo.heap.size 32 ?hg (N := 89) ?hd (xs := []) (inner := []) (ok := fun _ => True) (okp := fun _ => True) ?hr ?hp (fun _ hk => hk) trivial (Below.refl _ _) (Nat.le_refl _) (by simp) ?_; (case hd => rfl); (case hg => rfl); (case hr => first | (go_simp; done) | (go_simp; rfl)); (case hp => exact (Reps.none _ _)); intro v15 w6 hR6 hB6 hg6 hn6; have HR6 := Aside0.mk hR6; have HB6 := Aside0.mk hB6; clear hR6 hB6 hg6 hn6)
            go_wp2
            obtain ⟨A0, A1, c1, eA, qrow, hrow, hcrow⟩ := at_LT32 HR.out (i : Int) (by omega) (by omega)
            subst eA
            rw [Int.toNat_natCast] at qrow
            have HCR := Aside0.mk hcrow
            have HQR := Aside0.mk qrow
            have hQ2 := HQ.out.m i
            clear hcrow qrow
            obtain ⟨row, hrw⟩ : ∃ row, rd_LT32 l i = row := ⟨_, rfl⟩
            have HT := Aside0.mk (fun k => HQ.out.t i k)
            have hi2 := hlt2
            rw [hrw] at HCR HQR hQ2 hrow HT
            have HRW := Aside0.mk hrw
            clear hrw f3
            go_loopg [15, 16] row.length (fun kq v15 v16 wi => ∃ (k : Nat), v16 = .int .i64 (k : Int) ∧ k ≤ row.length ∧ Aside0 (kq = row.length - k) ∧ Aside0 (Kd.R (Kd.fixed k32 w) 32 wi wo.heap.size (fun _ => True) v15 ((row.take k).map shiftI)) ∧ Aside0 (Below wo.heap.size wo wi))
            case atStart => exact ⟨0, rfl, Nat.zero_le _, ⟨rfl⟩, HR6, HB6⟩
            case round =>
              clear HR6 HB6
              obtain ⟨k, rfl, hk, HK3, HR3, HB3⟩ := hrel
              have HL3 := Aside0.mk (HL2.out.below HB3.out)
              have f3 : wr.cell? ⟨w.heap.size, 3, none⟩ = some (.slice (some A0) l.length c) := (blk_cell HL3.out.f 3).trans rfl
              have q3 := pw_cell_below HL3.out.b HQR.out
              by_cases hlt3 : k < row.length
              · obtain ⟨B0, A5, c5, eB, q0, q1, q2, q3', q4, q5, l5, g5⟩ := at_T32 HCR.out (k : Int) (by omega) (by omega)
                subst eB
                rw [Int.toNat_natCast] at q0 q1 q2 q3' q4 q5
                obtain ⟨x, hx⟩ : ∃ x, rd_T32 row (k : Int) = x := ⟨_, rfl⟩
                have hT := HT.out k hi2 hlt3
                have htk := take_rdT row k hlt3
                rw [hx] at hT htk q0 q1 q2 q3' q4 q5 l5 g5
                replace q0 := pw_cell_below HL3.out.b q0
                replace q1 := pw_cell_below HL3.out.b q1
                replace q2 := pw_cell_below HL3.out.b q2
                replace q3' := pw_cell_below HL3.out.b q3'
                replace q4 := pw_cell_below HL3.out.b q4
                replace q5 := pw_cell_below HL3.out.b q5
                replace htk := (congrArg (List.map shiftI) htk).trans (List.map_append ..)
                have hln3 : ((row.take k).map shiftI).length = k := by simp; omega
                have Htk := Aside0.mk htk
                have Hln3 := Aside0.mk hln3
                clear hx htk hln3
                by_cases e12 : x.f0 = 12
                · have HKx := Aside0.mk (show k32.K w (shiftI x) (Array.toList #[.int .i64 x.f0, .int .i64 x.f1, .int .i64 (x.f2 + 1), .int .i64 x.f3, .string x.f4, .slice A5 x.f5.length c5]) by rw [shiftI_12 e12]; exact k32_mk w ⟨x.f0, x.f1, x.f2 + 1, x.f3, x.f4, x.f5⟩ l5 g5)
                  have t12 : (x.f0 == 12) = true := by simpa using e12
                  have b1 := (hT.1 e12).1
                  have b2 := (hT.1 e12).2
                  clear hT e12 l5 g5
                  go_upto_region 19 with (fail)
                  go_wp2_with ((with_reducible refine gate_builtin (b := .append) (xs := #[.tmp 126, .tmp 128]) rfl ?_); at_builtin; go_must (refine Kd.R_append (Kd.fixed k32 w) (w0 := wo) (W := wr.alloc (.cells #[.int .i64 x.f0, .int .i64 x.f1, .int .i64 (x.f2 + 1), .int .i64 x.f3, .string x.f4, .slice A5 x.f5.length c5] 32)) wo.heap.size rfl (.tmp 126) (.tmp 128) 30 32 (.agg #[.int .i64 0, .int .i64 0, .int .i64 0, .int .i64 0, .string ⟨#[]⟩, .slice none 0 0]) 72 rfl Tryd.underlying30 info32 rfl (show 0 < 6 by decide) (by omega) _ ((row.take k).map shiftI) (shiftI x) _ (fun _ => True) (fun _ => False) rfl (by rw [alloc_size]; rfl) HKx.out (fun _ hk => hk.elim) (fun _ _ => trivial) (Kd.R_below HR3.out (below_alloc (Below.refl _ _) _)) (below_alloc HB3.out _) (below_alloc HB3.out _).size (by rw [Hln3.out]; omega) ?_); intro v1 w9 hR9 hB9 hg9 hat9; have HR9 := Aside0.mk hR9; have HB9 := Aside0.mk hB9; clear hR9 hB9 hg9 hat9)
                  go_roundg (row.length - (k + 1))
                  case measure => rw [HK3.out]; omega
                  case rel => exact ⟨k + 1, by go_num, by omega, ⟨rfl⟩, ⟨by rw [Htk.out]; exact HR9.out⟩, HB9⟩
                · have t12 : (x.f0 == 12) = false := by simpa using e12
                  by_cases e13 : x.f0 = 13
                  · have HKx := Aside0.mk (show k32.K w (shiftI x) (Array.toList #[.int .i64 x.f0, .int .i64 (x.f1 + 1), .int .i64 x.f2, .int .i64 (x.f3 + 1), .string x.f4, .slice A5 x.f5.length c5]) by rw [shiftI_13 e13]; exact k32_mk w ⟨x.f0, x.f1 + 1, x.f2, x.f3 + 1, x.f4, x.f5⟩ l5 g5)
                    have t13 : (x.f0 == 13) = true := by simpa using e13
                    have b1 := (hT.2 e13).1.1
                    have b2 := (hT.2 e13).1.2
                    have b3 := (hT.2 e13).2.1
                    have b4 := (hT.2 e13).2.2
                    clear hT e12 e13 l5 g5
                    go_upto_region 19 with (fail)
                    go_wp2_with ((with_reducible refine gate_builtin (b := .append) (xs := #[.tmp 126, .tmp 128]) rfl ?_); at_builtin; go_must (refine Kd.R_append (Kd.fixed k32 w) (w0 := wo) (W := wr.alloc (.cells #[.int .i64 x.f0, .int .i64 (x.f1 + 1), .int .i64 x.f2, .int .i64 (x.f3 + 1), .string x.f4, .slice A5 x.f5.length c5] 32)) wo.heap.size rfl (.tmp 126) (.tmp 128) 30 32 (.agg #[.int .i64 0, .int .i64 0, .int .i64 0, .int .i64 0, .string ⟨#[]⟩, .slice none 0 0]) 72 rfl Tryd.underlying30 info32 rfl (show 0 < 6 by decide) (by omega) _ ((row.take k).map shiftI) (shiftI x) _ (fun _ => True) (fun _ => False) rfl (by rw [alloc_size]; rfl) HKx.out (fun _ hk => hk.elim) (fun _ _ => trivial) (Kd.R_below HR3.out (below_alloc (Below.refl _ _) _)) (below_alloc HB3.out _) (below_alloc HB3.out _).size (by rw [Hln3.out]; omega) ?_); intro v1 w9 hR9 hB9 hg9 hat9; have HR9 := Aside0.mk hR9; have HB9 := Aside0.mk hB9; clear hR9 hB9 hg9 hat9)
                    go_roundg (row.length - (k + 1))
                    case measure => rw [HK3.out]; omega
                    case rel => exact ⟨k + 1, by go_num, by omega, ⟨rfl⟩, ⟨by rw [Htk.out]; exact HR9.out⟩, HB9⟩
                  · have HKx := Aside0.mk (show k32.K w (shiftI x) (Array.toList #[.int .i64 x.f0, .int .i64 x.f1, .int .i64 x.f2, .int .i64 x.f3, .string x.f4, .slice A5 x.f5.length c5]) by rw [shiftI_no e12 e13]; exact k32_mk w x l5 g5)
                    have t13 : (x.f0 == 13) = false := by simpa using e13
                    clear hT e12 e13 l5 g5
                    go_upto_region 19 with (fail)
                    go_wp2_with ((with_reducible refine gate_builtin (b := .append) (xs := #[.tmp 126, .tmp 128]) rfl ?_); at_builtin; go_must (refine Kd.R_append (Kd.fixed k32 w) (w0 := wo) (W := wr.alloc (.cells #[.int .i64 x.f0, .int .i64 x.f1, .int .i64 x.f2, .int .i64 x.f3, .string x.f4, .slice A5 x.f5.length c5] 32)) wo.heap.size rfl (.tmp 126) (.tmp 128) 30 32 (.agg #[.int .i64 0, .int .i64 0, .int .i64 0, .int .i64 0, .string ⟨#[]⟩, .slice none 0 0]) 72 rfl Tryd.underlying30 info32 rfl (show 0 < 6 by decide) (by omega) _ ((row.take k).map shiftI) (shiftI x) _ (fun _ => True) (fun _ => False) rfl (by rw [alloc_size]; rfl) HKx.out (fun _ hk => hk.elim) (fun _ _ => trivial) (Kd.R_below HR3.out (below_alloc (Below.refl _ _) _)) (below_alloc HB3.out _) (below_alloc HB3.out _).size (by rw [Hln3.out]; omega) ?_); intro v1 w9 hR9 hB9 hg9 hat9; have HR9 := Aside0.mk hR9; have HB9 := Aside0.mk hB9; clear hR9 hB9 hg9 hat9)
                    go_roundg (row.length - (k + 1))
                    case measure => rw [HK3.out]; omega
                    case rel => exact ⟨k + 1, by go_num, by omega, ⟨rfl⟩, ⟨by rw [Htk.out]; exact HR9.out⟩, HB9⟩
              · have hke : k = row.length := by omega
                subst hke
                have hR4 := HR3.out
                rw [List.take_length] at hR4
                obtain ⟨A15, c15, rfl⟩ := Kd.R_slice hR4
                rw [List.length_map] at hR4 ⊢
                obtain ⟨_, hown⟩ := Kd.R_own HL2.out.R
                have HM := Aside0.mk (Kd.R_lower (Kd.R_new hR4 hown) HL2.out.b.size)
                have g3 : wr.cell? ⟨gg, 3, none⟩ = some (.slice Ag gl.length cg) := (blk_cell HL3.out.g 3).trans rfl
                have gz := blk_frozen HL3.out.g 3
                have hlr := take_rdL l i hi2
                rw [HRW.out] at hlr
                replace hlr := (congrArg (List.map (·.map shiftI)) hlr).trans (List.map_append ..)
                have Hlr := Aside0.mk hlr
                have hln := Aside0.mk (show (gl ++ [row.map shiftI]).length = gl.length + 1 by simp)
                clear hR4 hown hlr hk
                go_upto_region 14 with ((with_reducible refine gate_builtin (b := .append) (xs := #[.tmp 131, .tmp 133]) rfl ?_); at_builtin; go_must (refine Kd.R_append (Kd.slice 32 (Kd.fixed k32 w)) (w0 := w) (W := wr) w.heap.size rfl (.tmp 131) (.tmp 133) 22 30 (.slice none 0 0) 24 rfl Tryd.underlying22 info30 rfl (show 0 < 1 by decide) (by omega) (.slice Ag gl.length cg) gl (row.map shiftI) [.slice A15 row.length c15] (fun _ => True) (fun k => True ∧ some k ≠ (Value.slice Ag gl.length cg).ownBlock) rfl rfl ⟨_, rfl, HM.out⟩ (fun _ hk => hk) (fun _ _ => trivial) HL3.out.R HL3.out.b HL3.out.b.size (by have := Hgn.out; omega) ?_); intro v2 w10 hR10 hB10 hg10 hat10; obtain ⟨A11, c11, rfl⟩ := Kd.R_slice hR10; have HR10 := Aside0.mk hR10; have HB10 := Aside0.mk hB10; have HG10 := Aside0.mk (blk_grown HL3.out.g hg10 (Kd.R_ne HL3.out.R HL3.out.g (by decide))); have HF10 := Aside0.mk (blk_grown HL3.out.f hg10 (Kd.R_ne HL3.out.R HL3.out.f (by decide))); have g310 : w10.cell? ⟨gg, 3, none⟩ = some (.slice Ag gl.length cg) := (blk_cell HG10.out 3).trans rfl; have gz10 := blk_frozen HG10.out 3; clear hR10 hB10 hg10 hat10)
                have HLn := LiveW.put HR10.out HG10.out HF10.out HB10.out hgg
                rw [hln.out] at HLn
                have HLN := Aside0.mk HLn
                clear HLn g310 gz10 g3 gz
                go_wp2
                go_roundg (l.length - (i + 1))
                case measure => rw [HK.out]; omega
                case rel =>
                  refine ⟨i + 1, A11, c11, by go_num, by omega, ⟨rfl⟩, ⟨?_⟩⟩
                  rw [Hlr.out, ← List.cons_append, HGL.out]
                  exact HLN.out
          · have hie : i = l.length := by omega
            subst hie
            have hgl2 := HGL.out
            rw [List.take_length] at hgl2
            have HCg := Aside0.mk (show cubbyref07_Check.f k nm p r gl = some e9 by rw [← hgl2]; exact HCG.out)
            have HRg := Aside0.mk (show e9 = 0 → LiveRuns k nm p r l gl args mem (fuel % 1000) ((r - p).toNat + 1) by rw [← hgl2]; exact HRU.out)
            have Hg1 := Aside0.mk (show rd_LT32 gl 0 = firstL value p r ++ [jumpI] ∧ 0 < gl.length by rw [← hgl2]; exact ⟨rfl, Nat.succ_pos _⟩)
            clear hgl2
            obtain ⟨Ar, cr, er, hcr, hCr⟩ := Kd.R_reads HL2.out.R
            obtain ⟨rfl, rfl⟩ : Ag = Ar ∧ cg = cr := by injection er with e1 e2 e3; exact ⟨e1, e3⟩
            have HCr := Aside0.mk (C_unfix_slice HL2.out.b hCr)
            clear er hCr
            have g0 : wo.cell? ⟨gg, 0, none⟩ = some (.string nm) := (blk_cell HL2.out.g 0).trans rfl
            have g1 : wo.cell? ⟨gg, 1, none⟩ = some (.int .i64 p) := (blk_cell HL2.out.g 1).trans rfl
            have g2 : wo.cell? ⟨gg, 2, none⟩ = some (.int .i64 r) := (blk_cell HL2.out.g 2).trans rfl
            have g3 : wo.cell? ⟨gg, 3, none⟩ = some (.slice Ag gl.length cg) := (blk_cell HL2.out.g 3).trans rfl
            by_cases e9z : e9 = 0
            · subst e9z
              obtain ⟨n1, hn1⟩ : ∃ n1 : Nat, (r - p).toNat + 1 = n1 := ⟨_, rfl⟩
              have hn1b : n1 ≤ 100001 := by omega
              have hl0 : (rd_LT32 gl 0).length = n1 := by rw [Hg1.out.1, ← hn1]; simp [firstL]
              obtain ⟨Ag0, A00, c00, eg0, q00, _, _⟩ := at_LT32 HCr.out 0 (by omega) (by have := Hg1.out.2; omega)
              subst eg0
              rw [hl0] at q00
              have HQ0 := Aside0.mk q00
              rw [hn1] at HRg
              have HN1 := Aside0.mk hn1
              clear q00 hl0 hn1
              obtain ⟨⟨ka, va, ta, ma, sa⟩, ⟨kb, vb, tb, mb, sb⟩, hra, hrb, hag, hs1, hs2⟩ := HRg.out rfl
              have HRA := Aside0.mk hra
              have HRB := Aside0.mk hrb
              have HAG := Aside0.mk hag
              have HS1 := Aside0.mk hs1
              have HS2 := Aside0.mk hs2
              clear hra hrb hag hs1 hs2
              clear HRg HRU
              go_upto_region 30 with (go_at_call 11; refine (cubbyref07_Check.calls k nm p r _ _ gl 0 _ HCr.out hcr HCg.out).mono ?_; rintro e w3 ⟨rfl, hb⟩; have HB3 := Aside0.mk hb; clear hb)
              have HL3 := Aside0.mk (HL2.out.below HB3.out)
              clear g0 g1 g2 g3
              have hn0 : 0 ≤ fuel % 1000 := by omega
              have hn1 : fuel % 1000 < 1000 := by omega
              have f0 : w3.cell? ⟨w.heap.size, 0, none⟩ = some (.string nm) := (blk_cell HL3.out.f 0).trans rfl
              have f1 : w3.cell? ⟨w.heap.size, 1, none⟩ = some (.int .i64 p) := (blk_cell HL3.out.f 1).trans rfl
              have f2 : w3.cell? ⟨w.heap.size, 2, none⟩ = some (.int .i64 r) := (blk_cell HL3.out.f 2).trans rfl
              replace f3 : w3.cell? ⟨w.heap.size, 3, none⟩ = some (.slice A l.length c) := (blk_cell HL3.out.f 3).trans rfl
              have HKf := Aside0.mk (show k24.K w (⟨nm, p, r, l⟩ : S24) [.string nm, .int .i64 p, .int .i64 r, .slice A l.length c] from k24_mk w ⟨nm, p, r, l⟩ hc HR.out)
              have HKg := Aside0.mk (show k24.K wo (⟨nm, p, r, gl⟩ : S24) [.string nm, .int .i64 p, .int .i64 r, .slice (some Ag0) gl.length cg] from k24_mk wo ⟨nm, p, r, gl⟩ hcr HCr.out)
              go_upto_region 32 with ((with_reducible refine gate_dst (N := 143) rfl ?_); refine Kd.R_lit (Kd.fixed k24 w) (w0 := w) (W := w3) w.heap.size 24 ?hg (N := 143) ?hd (xs := [⟨nm, p, r, l⟩]) (inner := [.string nm, .int .i64 p, .int .i64 r, .slice A l.length c]) (ok := fun _ => True) (okp := fun _ => True) ?hr ?hp (fun _ hk => hk) trivial HL3.out.b HL3.out.b.size (by simp) ?_; (case hd => rfl); (case hg => rfl); (case hr => first | (go_simp; done) | (go_simp; rfl)); (case hp => exact Reps.snoc (Reps.none _ _) HKf.out rfl); intro v143 w4 hR6 hB6 hg6 hn6; obtain ⟨A143, c143, rfl⟩ := Kd.R_slice hR6; have HR143 := Aside0.mk hR6; have HL4 := Aside0.mk (HL3.out.below (below_grown_none hg6)); have HB4 := Aside0.mk (below_step HB3.out (below_grown_none hg6)); clear hR6 hB6 hg6 hn6)
              clear f0 f1 f2 f3
              have g0 : w4.cell? ⟨gg, 0, none⟩ = some (.string nm) := (blk_cell HL4.out.g 0).trans rfl
              have g1 : w4.cell? ⟨gg, 1, none⟩ = some (.int .i64 p) := (blk_cell HL4.out.g 1).trans rfl
              have g2 : w4.cell? ⟨gg, 2, none⟩ = some (.int .i64 r) := (blk_cell HL4.out.g 2).trans rfl
              have g3 : w4.cell? ⟨gg, 3, none⟩ = some (.slice (some Ag0) gl.length cg) := (blk_cell HL4.out.g 3).trans rfl
              go_upto_region 33 with ((with_reducible refine gate_dst (N := 145) rfl ?_); refine Kd.R_lit (Kd.fixed k24 wo) (w0 := w) (W := w4) w.heap.size 24 ?hg (N := 145) ?hd (xs := [⟨nm, p, r, gl⟩]) (inner := [.string nm, .int .i64 p, .int .i64 r, .slice (some Ag0) gl.length cg]) (ok := fun _ => True) (okp := fun _ => True) ?hr ?hp (fun _ hk => hk) trivial HL4.out.b HL4.out.b.size (by simp) ?_; (case hd => rfl); (case hg => rfl); (case hr => first | (go_simp; done) | (go_simp; rfl)); (case hp => exact Reps.snoc (Reps.none _ _) HKg.out rfl); intro v145 w5 hR6 hB6 hg6 hn6; obtain ⟨A145, c145, rfl⟩ := Kd.R_slice hR6; have HR145 := Aside0.mk hR6; have HL5 := Aside0.mk (HL4.out.below (below_grown_none hg6)); have HB5 := Aside0.mk (below_step HB4.out (below_grown_none hg6)); have HM1 := Aside0.mk (Kd.C_below (C_one HL4.out.b HR143.out) (below_grown_none hg6)); clear hR6 hB6 hg6 hn6)
              clear g0 g1 g2 g3
              have f0 : w5.cell? ⟨w.heap.size, 0, none⟩ = some (.string nm) := (blk_cell HL5.out.f 0).trans rfl
              have HM2 := Aside0.mk (C_one HB5.out HR145.out)
              go_upto_region 34 with (go_at_call 12; refine (run_Run.calls k [⟨nm, p, r, l⟩] nm args mem _ A143 c143 A2 c2 A3 c3 _ (ka, va, ta, ma, sa) HM1.out (Kd.C_below HA2.out HL5.out.b) (Kd.C_below HA3.out HL5.out.b) hc3 (by omega) HRA.out).mono ?_; rintro e w6 ⟨B1, d1, B2, d2, rfl, hC1, hC2, hb⟩; have HC1 := Aside0.mk hC1; have HC2 := Aside0.mk hC2; have HB6 := Aside0.mk hb; clear hC1 hC2 hb)
              obtain ⟨w7, hw7⟩ : ∃ w7 : World, w7 = w6.alloc (.cells #[.int .i64 ka, .int .i64 va, .slice B1 ta.length d1, .slice B2 ma.length d2, .int .i64 sa] 35 (0, 0)) := ⟨_, rfl⟩
              have hb7 : Below w6.heap.size w6 w7 := by rw [hw7]; exact below_alloc (Below.refl _ _) _
              have HO1 := Aside0.mk (show w7.heap[w6.heap.size]? = some (.cells #[.int .i64 ka, .int .i64 va, .slice B1 ta.length d1, .slice B2 ma.length d2, .int .i64 sa] 35 (0, 0)) by rw [hw7]; exact blk_new _ _)
              have HL7 := Aside0.mk ((HL5.out.below HB6.out).below hb7)
              have HB7 := Aside0.mk (below_step (below_step HB5.out HB6.out) hb7)
              have HC1' := Aside0.mk (Kd.R_below HC1.out hb7)
              have HC2' := Aside0.mk (Kd.R_below HC2.out hb7)
              have HM2' := Aside0.mk (Kd.C_below HM2.out (below_step HB6.out hb7))
              rw [← hw7]
              clear hw7 hb7 HC1 HC2 HM2 HM1 f0 HR143 HR145 HL3 HB3 HB4 HB5 HL4 HL5 HKf HKg
              generalize w6.heap.size = go1 at HO1 ⊢
              have g0 : w7.cell? ⟨gg, 0, none⟩ = some (.string nm) := (blk_cell HL7.out.g 0).trans rfl
              have g3 : w7.cell? ⟨gg, 3, none⟩ = some (.slice (some Ag0) gl.length cg) := (blk_cell HL7.out.g 3).trans rfl
              have q0 : w7.cell? Ag0 = some (.slice A00 n1 c00) := by have h := pw_cell_below HB7.out HQ0.out; rw [show (0 : Int).toNat = 0 from rfl, Addr.add_zero'] at h; exact h
              have hsum : IntKind.i64.wrap (fuel % 1000 + (n1 : Int)) = fuel % 1000 + (n1 : Int) := IntWalk.i64_in _ (by omega)
              have hglp := Hg1.out.2
              have ne0 := World.new_ne w7 _ g0
              have ne3 := World.new_ne w7 _ g3
              have neq := World.new_ne w7 _ q0
              go_cut [22] (fun v22 wc => ∃ (go2 : Nat) (D1 : Option Addr) (e1 : Nat) (D2 : Option Addr) (e2 : Nat), v22 = .pointer (some ⟨go2, 0, none⟩) ∧ Aside0 (wc.heap[go2]? = some (.cells #[.int .i64 kb, .int .i64 vb, .slice D1 tb.length e1, .slice D2 mb.length e2, .int .i64 sb] 35 (0, 0))) ∧ Aside0 (∃ B, Kd.R (Kd.int .i64) 3 wc B (fun _ => True) (.slice D1 tb.length e1) tb) ∧ Aside0 (∃ B, Kd.R (Kd.int .i64) 3 wc B (fun _ => True) (.slice D2 mb.length e2) mb) ∧ Aside0 (Below w7.heap.size w7 wc))
              case first =>
                go_region_held3 (fun W => W.cell? ⟨gg, 0, none⟩ = some (.string nm) ∧ W.cell? ⟨gg, 3, none⟩ = some (.slice (some Ag0) gl.length cg) ∧ W.cell? Ag0 = some (.slice A00 n1 c00)) (go_keep) (first | (go_at_call 12; refine (run_Run.calls k [⟨nm, p, r, gl⟩] nm args mem _ A145 c145 A2 c2 A3 c3 _ (kb, vb, tb, mb, sb) ?s1 ?s2 ?s3 hc3 (by omega) HRB.out).mono ?_; (case s1 => exact Kd.C_below HM2'.out (by repeat (first | exact Below.refl _ _ | apply below_drew | apply below_alloc))); (case s2 => exact Kd.C_below HA2.out (by repeat (first | exact HL7.out.b | apply below_drew | apply below_alloc))); (case s3 => exact Kd.C_below HA3.out (by repeat (first | exact HL7.out.b | apply below_drew | apply below_alloc))); rintro e w8 ⟨D1, e1, D2, e2, rfl, hC1, hC2, hb⟩; have HD1 := Aside0.mk hC1; have HD2 := Aside0.mk hC2; have HB8 := Aside0.mk (below_step (w := w7) (by repeat (first | exact Below.refl _ _ | apply below_drew | apply below_alloc)) hb);  (try (have kz : w8.heap[w7.heap.size]? = some (.cells #[.int .i64 0, .int .i64 0, .slice none 0 0, .slice none 0 0, .int .i64 0] 35 (0, 0)) := blk_below (by exact blk_new w7 _) hb; have KZ := Aside0.mk kz; have z0 : w8.cell? ⟨w7.heap.size, 0, none⟩ = some (.int .i64 0) := (blk_cell kz 0).trans rfl; have z1 : w8.cell? ⟨w7.heap.size, 1, none⟩ = some (.int .i64 0) := (blk_cell kz 1).trans rfl; have z2 : w8.cell? ⟨w7.heap.size, 2, none⟩ = some (.slice none 0 0) := (blk_cell kz 2).trans rfl; have z3 : w8.cell? ⟨w7.heap.size, 3, none⟩ = some (.slice none 0 0) := (blk_cell kz 3).trans rfl; have z4 : w8.cell? ⟨w7.heap.size, 4, none⟩ = some (.int .i64 0) := (blk_cell kz 4).trans rfl; have y0 := blk_frozen kz 0; have y1 := blk_frozen kz 1; have y2 := blk_frozen kz 2; have y3 := blk_frozen kz 3; have y4 := blk_frozen kz 4; clear kz)); have k0 := pw_cell_below HB8.out g0; have k1 := pw_cell_below HB8.out g3; have k2 := pw_cell_below HB8.out q0; clear hC1 hC2 hb))
                all_goals
                  try go_wp2
                  go_meet
                  case rel =>
                    first
                      | (have F := five_set KZ.out (.int .i64 kb) (.int .i64 vb) (.slice D1 tb.length e1) (.slice D2 mb.length e2) (.int .i64 sb); exact ⟨w7.heap.size, D1, e1, D2, e2, rfl, ⟨F.1⟩, ⟨_, F.2.1 HD1.out (by decide)⟩, ⟨_, F.2.1 HD2.out (by decide)⟩, ⟨F.2.2 HB8.out (Nat.le_refl _)⟩⟩)
                      | exact ⟨w8.heap.size, D1, e1, D2, e2, rfl, ⟨blk_new _ _⟩, ⟨_, Kd.R_below HD1.out (below_alloc (Below.refl _ _) _)⟩, ⟨_, Kd.R_below HD2.out (below_alloc (Below.refl _ _) _)⟩, ⟨below_alloc HB8.out _⟩⟩
              case rest =>
                obtain ⟨go2, D1, e1, D2, e2, rfl, HO2, HD1, HD2, HBc⟩ := hcut
                have HO1c := Aside0.mk (blk_below HO1.out HBc.out)
                have HL8 := Aside0.mk (HL7.out.below HBc.out)
                have f1 : wc.cell? ⟨w.heap.size, 1, none⟩ = some (.int .i64 p) := (blk_cell HL8.out.f 1).trans rfl
                by_cases hap : (args.length : Int) = p
                · obtain ⟨hq1, hq2, hq3⟩ := HAG.out.2 hap
                  obtain ⟨rfl, rfl, rfl, rfl, rfl⟩ : ka = kb ∧ va = vb ∧ ta = tb ∧ ma = mb ∧ sb = sa + (n1 : Int) := by
                    injection hq1 with h1 h2
                    injection h2 with h2 h3
                    injection h3 with h3 h4
                    injection h4 with h4 h5
                    exact ⟨h1.symm, h2.symm, h3.symm, h4.symm, h5⟩
                  have t1 : ((args.length : Int) == p) = true := by simpa using hap
                  have t2 : ((args.length : Int) != p) = false := by simpa using hap
                  have q1 : 0 ≤ sa := hq2
                  have q2 : sa ≤ 2000000 := hq3
                  clear hq1 hq2 hq3 hap
                  have a0 : wc.cell? ⟨go1, 0, none⟩ = some (.int .i64 ka) := (blk_cell HO1c.out 0).trans rfl
                  have a1 : wc.cell? ⟨go1, 1, none⟩ = some (.int .i64 va) := (blk_cell HO1c.out 1).trans rfl
                  have a2 : wc.cell? ⟨go1, 2, none⟩ = some (.slice B1 ta.length d1) := (blk_cell HO1c.out 2).trans rfl
                  have a3 : wc.cell? ⟨go1, 3, none⟩ = some (.slice B2 ma.length d2) := (blk_cell HO1c.out 3).trans rfl
                  have a4 : wc.cell? ⟨go1, 4, none⟩ = some (.int .i64 sa) := (blk_cell HO1c.out 4).trans rfl
                  have b0 : wc.cell? ⟨go2, 0, none⟩ = some (.int .i64 ka) := (blk_cell HO2.out 0).trans rfl
                  have b1 : wc.cell? ⟨go2, 1, none⟩ = some (.int .i64 va) := (blk_cell HO2.out 1).trans rfl
                  have b2 : wc.cell? ⟨go2, 2, none⟩ = some (.slice D1 ta.length e1) := (blk_cell HO2.out 2).trans rfl
                  have b3 : wc.cell? ⟨go2, 3, none⟩ = some (.slice D2 ma.length e2) := (blk_cell HO2.out 3).trans rfl
                  have b4 : wc.cell? ⟨go2, 4, none⟩ = some (.int .i64 (sa + (n1 : Int))) := (blk_cell HO2.out 4).trans rfl
                  have g3 : wc.cell? ⟨gg, 3, none⟩ = some (.slice (some Ag0) gl.length cg) := (blk_cell HL8.out.g 3).trans rfl
                  have q0 : wc.cell? Ag0 = some (.slice A00 n1 c00) := pw_cell_below HBc.out q0
                  have hsum2 : IntKind.i64.wrap (sa + (n1 : Int)) = sa + (n1 : Int) := IntWalk.i64_in _ (by omega)
                  have HSA := Aside0.mk (fun n => by
                    obtain ⟨_, r2⟩ := HD1.out
                    exact cubbylaw11_same.calls k B1 d1 ta D1 e1 ta true (wc.drewN n) (Kd.C_below (R_rd HC1'.out).2 (pw_below_drewN HBc.out n)) (R_rd HC1'.out).1 (Kd.C_below (R_rd r2).2 (pw_below_drewN (Below.refl _ _) n)) (R_rd r2).1 HS1.out)
                  have HSB := Aside0.mk (fun n => by
                    obtain ⟨_, r2⟩ := HD2.out
                    exact cubbylaw11_same.calls k B2 d2 ma D2 e2 ma true (wc.drewN n) (Kd.C_below (R_rd HC2'.out).2 (pw_below_drewN HBc.out n)) (R_rd HC2'.out).1 (Kd.C_below (R_rd r2).2 (pw_below_drewN (Below.refl _ _) n)) (R_rd r2).1 HS2.out)
                  go_upto_region 37 with (fail)
                  go_quiet ((go_at_call 13; first | exact quiet_of_drawn (HSA.out _) | exact quiet_of_drawn (HSB.out _)))
                  go_wp2
                  go_ret
                  exact ⟨rfl, pw_below_drewN HL8.out.b _⟩
                · obtain ⟨hq1, hq2⟩ := HAG.out.1 hap
                  obtain rfl : ka = 2 := hq1
                  obtain rfl : kb = 2 := hq2
                  have t1 : ((args.length : Int) == p) = false := by simpa using hap
                  have t2 : ((args.length : Int) != p) = true := by simpa using hap
                  have a0 : wc.cell? ⟨go1, 0, none⟩ = some (.int .i64 2) := (blk_cell HO1c.out 0).trans rfl
                  have b0 : wc.cell? ⟨go2, 0, none⟩ = some (.int .i64 2) := (blk_cell HO2.out 0).trans rfl
                  clear hap g0 g3 q0
                  go_wp2
                  go_ret
                  exact ⟨rfl, HL8.out.b⟩
            · have t9 : (e9 == 0) = false := by simpa using e9z
              have t9' : (e9 != 0) = true := by simpa using e9z
              clear e9z
              go_wp2_with (go_at_call 11; refine (cubbyref07_Check.calls k nm p r _ _ gl e9 _ HCr.out hcr HCg.out).mono ?_; rintro e w3 ⟨rfl, hb⟩)
              go_ret
              exact ⟨rfl, below_step HL2.out.b hb⟩
end Go.Proofs.YtoilapjkgligfaaDoor.P
