import Derived.Test.YtoilapjkgligfaaDoorKP
import Derived.Test.YtoilapjkgligfaaDoorKa0
import Derived.Laws.CopyOwn
import Derived.Deep.RegionLaw
import Derived.RegionTactic
import Derived.BigRegion
import Derived.ChangeAlike
namespace Go.Proofs.YtoilapjkgligfaaDoor.P
set_option linter.unusedVariables false
open Go.RowKit Go.Proofs.YtoilapjkgligfaaDoorW.PrintWords Go.Proofs.YtoilapjkgligfaaDoorW.PrintLast Go.Proofs.YtoilapjkgligfaaDoorW.PrintMore

theorem quiet_of_drawn {P : Program} {f : FuncId} {args : Array Value} {w : World} {n : Nat} {v : Value} (h : Calls P f args (w.drewN n) fun e w' => e = .returned v ∧ Drawn0 (w.drewN n) w') : Calls P f args (w.drewN n) fun e w'' => e = .returned v ∧ ∃ m, w'' = w.drewN m :=
  Calls.quiet_of (h.mono fun _ _ ⟨he, hd⟩ => ⟨he, hd.out⟩)
theorem below_grown_none {w w1 : World} (h : w.grownBy w1 none) : Below w.heap.size w w1 := ⟨h.os, h.tape, h.output, h.size, fun i hi => h.block i hi (by simp)⟩
theorem own_full {w : World} {base e n g : Nat} {xs : List Value} (h : w.ownsRow base e 1 (.slice (some ⟨g, 0, none⟩) n n) n xs) : w.heap[g]? = some (.cells xs.toArray e (0, 0)) := by
  obtain ⟨h1, h2⟩ := h
  rcases h2 with ⟨h3, _⟩ | ⟨g', cap, cur, h3, _, h5, _, _, h8, h9⟩
  · cases h3
  · injection h3 with h31 _ h33
    injection h31 with h31
    injection h31 with h311
    subst h311 h33
    rw [h5]
    congr 2
    rw [← h9, List.take_of_length_le (by simp [h8])]
theorem C_int_copy {w : World} {A : Option Addr} {l : List Int} (h : Kd.C (Kd.int .i64) w A l.length l) (n : Nat) : 0 < ((l.take n).map (Value.int .i64)).length → ∃ ad, A = some ad ∧ ∀ j v, ((l.take n).map (Value.int .i64))[j]? = some v → w.cell? (ad.add j) = some v := by
  intro hp
  rw [List.length_map, List.length_take] at hp
  obtain ⟨ad, rfl, hc⟩ := h.2.2 (by omega)
  refine ⟨ad, rfl, fun j v hj => ?_⟩
  rw [List.getElem?_map, Option.map_eq_some_iff] at hj
  obtain ⟨x, hx, rfl⟩ := hj
  rw [List.getElem?_take] at hx
  split at hx
  · obtain ⟨c, _, hK, hcell⟩ := hc j x hx
    obtain rfl : c = [.int .i64 x] := hK
    have h2 := hcell 0 _ rfl
    rwa [show (Kd.int .i64).sz = 1 from rfl, Nat.mul_one, Nat.add_zero] at h2
  · cases hx
theorem regs0_cells (vals : List Int) (n : Nat) : splice (List.replicate n (Value.int .i64 0)) 0 ((vals.take n).map (Value.int .i64)) = (regs0 vals n).map (Value.int .i64) := by
  have h : n - min n vals.length = n - vals.length := by omega
  simp [splice, regs0, h]
theorem regs0_length (vals : List Int) (n : Nat) : (regs0 vals n).length = n := by
  simp [regs0]; omega
theorem gb_some {l : List (List S32)} {i : Int} {b : List S32} (h : gb l i = some b) : 0 ≤ i ∧ i < (l.length : Int) ∧ rd_LT32 l i = b := by
  unfold gb at h
  split at h
  · split at h
    · exact ⟨by assumption, by assumption, Option.some.inj h⟩
    · cases h
  · cases h
theorem gi_some {l : List Int} {i : Int} {b : Int} (h : gi l i = some b) : 0 ≤ i ∧ i < (l.length : Int) ∧ rd l i = b := by
  unfold gi at h
  split at h
  · split at h
    · exact ⟨by assumption, by assumption, Option.some.inj h⟩
    · cases h
  · cases h
theorem si_some {l : List Int} {i v : Int} {b : List Int} (h : si l i v = some b) : 0 ≤ i ∧ i < (l.length : Int) ∧ l.set i.toNat v = b := by
  unfold si at h
  split at h
  · split at h
    · exact ⟨by assumption, by assumption, Option.some.inj h⟩
    · cases h
  · cases h

theorem slices_IndexFunc.name_none (nm : ByteArray) (g : Nat) (A : Option Addr) (c : Nat) (l : List S24) (w : World) (hr : Kd.C k24 w A l.length l) (hb : w.heap[g]? = some (.cells #[.string nm] 9 (0, 0))) (hf : l.find? (fun f => f.f0.toList == nm.toList) = none) :
    Calls Tryd.prog 71 #[.slice A l.length c, .func (.func 72) #[] #[.pointer (some ⟨g, 0, none⟩)]] w fun e w' => e = .returned (.int .i64 (-1)) ∧ Below w.heap.size w w' := by
  refine (slices_IndexFunc.name_calls nm g A c l w hr hb).mono ?_
  rintro e w' ⟨⟨i, rfl, h⟩, hb⟩
  rcases h with ⟨rfl, _⟩ | ⟨_, _, h⟩
  · exact ⟨rfl, hb⟩
  · rw [hf] at h; cases h
theorem slices_IndexFunc.name_some (nm : ByteArray) (g : Nat) (A : Option Addr) (c : Nat) (l : List S24) (f : S24) (w : World) (hr : Kd.C k24 w A l.length l) (hb : w.heap[g]? = some (.cells #[.string nm] 9 (0, 0))) (hf : l.find? (fun f => f.f0.toList == nm.toList) = some f) :
    Calls Tryd.prog 71 #[.slice A l.length c, .func (.func 72) #[] #[.pointer (some ⟨g, 0, none⟩)]] w fun e w' => ∃ i : Int, e = .returned (.int .i64 i) ∧ 0 ≤ i ∧ i < l.length ∧ rd_T24 l i = f ∧ Below w.heap.size w w' := by
  refine (slices_IndexFunc.name_calls nm g A c l w hr hb).mono ?_
  rintro e w' ⟨⟨i, rfl, h⟩, hb⟩
  rcases h with ⟨rfl, h⟩ | ⟨h0, h1, h⟩
  · rw [hf] at h; cases h
  · rw [hf] at h
    exact ⟨i, rfl, h0, h1, (Option.some.inj h).symm, hb⟩

set_option maxHeartbeats 1000000 in
set_option maxRecDepth 100000 in
theorem run_call.none_ (nm : ByteArray) (g : Nat) (M : Option Addr) (cM : Nat) (mod : List S24) (tv : Value) (mem vals : List Int) (fuel steps : Int) (A2 : Option Addr) (c2 : Nat) (w : World)
    (hb : w.heap[g]? = some (.cells (mCells (.slice M mod.length cM) tv mem fuel steps) 73 (0, 0))) (hr : Kd.C k24 w M mod.length mod) (hf : mod.find? (fun f => f.f0.toList == nm.toList) = none) :
    Calls Tryd.prog 35 #[.pointer (some ⟨g, 0, none⟩), .string nm, .slice A2 vals.length c2, .int .i64 0] w fun e w' => e = endOf 2 0 ∧ Below w.heap.size w w' := by
  have hu := Tryd.underlying73
  have c0 := (blk_cell (blk_alloc hb (.cells #[.string nm] 9 (0, 0))) 0).trans (mCells_mod _ _ _ _ _)
  have hmf : ∀ (fn : Fn) (first cap : Array Value) (w : World), (Instr.makeFunc fn first cap).run Tryd.prog w = .ok (.func fn first cap) w := fun _ _ _ _ => rfl
  have HR := Aside0.mk hr
  have HF := Aside0.mk hf
  have HN := Aside0.mk (blk_new w (.cells #[.string nm] 9 (0, 0)))
  have HB := Aside0.mk (below_alloc (Below.refl w.heap.size w) (.cells #[.string nm] 9 (0, 0)))
  clear hb hr hf
  go_enter Tryd.func35, Tryd.ntmps35
  go_wp2_with (go_at_call 71; refine (slices_IndexFunc.name_none nm _ _ _ mod _ (Kd.C_below HR.out HB.out) HN.out HF.out).mono ?_; rintro e w1 ⟨rfl, hb⟩; have HB1 := Aside0.mk (below_step HB.out hb); clear hb)
  exact ⟨rfl, rfl, HB1.out⟩

set_option maxHeartbeats 1000000 in
set_option maxRecDepth 100000 in
theorem run_call.arity (nm : ByteArray) (g : Nat) (M : Option Addr) (cM : Nat) (mod : List S24) (f : S24) (tv : Value) (mem vals : List Int) (fuel steps : Int) (A2 : Option Addr) (c2 : Nat) (w : World)
    (hb : w.heap[g]? = some (.cells (mCells (.slice M mod.length cM) tv mem fuel steps) 73 (0, 0))) (hr : Kd.C k24 w M mod.length mod) (hf : mod.find? (fun f => f.f0.toList == nm.toList) = some f) (hp : f.f1 ≠ (vals.length : Int)) :
    Calls Tryd.prog 35 #[.pointer (some ⟨g, 0, none⟩), .string nm, .slice A2 vals.length c2, .int .i64 0] w fun e w' => e = endOf 2 0 ∧ Below w.heap.size w w' := by
  have hu := Tryd.underlying73
  have hu2 := Tryd.underlying24
  have hb1 := blk_alloc hb (.cells #[.string nm] 9 (0, 0))
  have c0 := (blk_cell hb1 0).trans (mCells_mod _ _ _ _ _)
  have hmf : ∀ (fn : Fn) (first cap : Array Value) (w : World), (Instr.makeFunc fn first cap).run Tryd.prog w = .ok (.func fn first cap) w := fun _ _ _ _ => rfl
  have HR := Aside0.mk hr
  have HF := Aside0.mk hf
  have HP := Aside0.mk hp
  have HBK := Aside0.mk hb1
  have HN := Aside0.mk (blk_new w (.cells #[.string nm] 9 (0, 0)))
  have HB := Aside0.mk (below_alloc (Below.refl w.heap.size w) (.cells #[.string nm] 9 (0, 0)))
  clear hb hr hf hp hb1
  go_enter Tryd.func35, Tryd.ntmps35
  go_upto_region 2 with (go_at_call 71; refine (slices_IndexFunc.name_some nm _ _ _ mod f _ (Kd.C_below HR.out HB.out) HN.out HF.out).mono ?_; rintro e w1 ⟨i, rfl, h0, h1, hrd, hb⟩; have HB1 := Aside0.mk (below_step HB.out hb); have c0' := (blk_cell (blk_below HBK.out hb) 0).trans (mCells_mod _ _ _ _ _); have HRD := Aside0.mk hrd; clear hrd hb)
  obtain ⟨ad, A3, c3, e, _, x1, _, _, _, _⟩ := at_T24 (Kd.C_below HR.out HB1.out) i h0 h1
  rw [HRD.out] at x1
  cases e
  have t0 : decide (i < 0) = false := decide_eq_false (by omega)
  have t1 : (f.f1 == (vals.length : Int)) = false := by simpa using HP.out
  have t2 : (f.f1 != (vals.length : Int)) = true := by simpa using HP.out
  go_wp2
  exact ⟨rfl, rfl, HB1.out⟩

set_option maxHeartbeats 16000000 in
set_option maxRecDepth 100000 in
theorem run_call.calls (k : Nat) (nm : ByteArray) (g go gm : Nat) (M : Option Addr) (cM : Nat) (mod : List S24) (f : S24) (b : List S32) (mem vals : List Int) (fuel : Int) (A2 : Option Addr) (c2 : Nat) (O Mc : Array Value) (res : Int × Int × List Int × List Int × Int) (w0 w : World)
    (hb : w.heap[g]? = some (.cells (mCells (.slice M mod.length cM) (.slice none 0 0) mem fuel 0) 73 (0, 0))) (hml : mem.length = 256) (hfu : fuel ≤ 1048576) (hr : Kd.C k24 w0 M mod.length mod) (hv : Kd.C (Kd.int .i64) w A2 vals.length vals) (hf : mod.find? (fun f => f.f0.toList == nm.toList) = some f) (hp : f.f1 = (vals.length : Int))
    (hreg : 0 ≤ f.f2 ∧ f.f2 ≤ 1000) (hgb : gb f.f3 0 = some b) (ho : w.heap[go]? = some (.cells O 35 (0, 0))) (hm : w.heap[gm]? = some (.cells Mc 70 (0, 0))) (hB : Below w0.heap.size w0 w) (hg : w0.heap.size ≤ g)
    (h : runL f.f3 fuel k (regs0 vals f.f2.toNat) b mem [] 0 = some res) :
    Calls Tryd.prog 35 #[.pointer (some ⟨g, 0, none⟩), .string nm, .slice A2 vals.length c2, .int .i64 0] w (CallPost w0 g go gm (.slice M mod.length cM) O Mc fuel res) := by
  have hu := Tryd.underlying73
  have hu2 := Tryd.underlying24
  have hu3 := Tryd.underlying32
  have hb1 := blk_alloc hb (.cells #[.string nm] 9 (0, 0))
  have c0 := (blk_cell hb1 0).trans (mCells_mod _ _ _ _ _)
  have hmf : ∀ (fn : Fn) (first cap : Array Value) (w : World), (Instr.makeFunc fn first cap).run Tryd.prog w = .ok (.func fn first cap) w := fun _ _ _ _ => rfl
  have HR := Aside0.mk hr
  have HV := Aside0.mk hv
  have HF := Aside0.mk hf
  have HP := Aside0.mk hp
  have HBK := Aside0.mk hb1
  have HML := Aside0.mk hml
  have HO := Aside0.mk ho
  have HM := Aside0.mk hm
  have HB0 := Aside0.mk hB
  have HGB := Aside0.mk hgb
  have H := Aside0.mk h
  have HN := Aside0.mk (blk_new w (.cells #[.string nm] 9 (0, 0)))
  have HB := Aside0.mk (below_alloc (Below.refl w.heap.size w) (.cells #[.string nm] 9 (0, 0)))
  obtain ⟨hr0, hr1⟩ := hreg
  clear hb hr hf hp hb1 hv hml ho hm hB hgb h
  go_enter Tryd.func35, Tryd.ntmps35
  go_upto_region 2 with (go_at_call 71; refine (slices_IndexFunc.name_some nm _ _ _ mod f _ (Kd.C_below HR.out (below_step HB0.out HB.out)) HN.out HF.out).mono ?_; rintro e w1 ⟨i, rfl, h0, h1, hrd, hb⟩; have HB1 := Aside0.mk (below_step HB.out hb); have HBK1 := Aside0.mk (blk_below HBK.out hb); have HRD := Aside0.mk hrd; clear hrd hb)
  have c0' := (blk_cell HBK1.out 0).trans (mCells_mod _ _ _ _ _)
  have HW01 := Aside0.mk (below_step HB0.out HB1.out)
  obtain ⟨ad, A3, c3, e, x0, x1, x2, x3, hl3, hC3⟩ := at_T24 HR.out i h0 h1
  replace x0 := (HW01.out.cell (World.block_lt_of_cell? w0 _ x0)).trans x0
  replace x1 := (HW01.out.cell (World.block_lt_of_cell? w0 _ x1)).trans x1
  replace x2 := (HW01.out.cell (World.block_lt_of_cell? w0 _ x2)).trans x2
  replace x3 := (HW01.out.cell (World.block_lt_of_cell? w0 _ x3)).trans x3
  rw [HRD.out] at x0 x1 x2 x3 hl3 hC3
  cases e
  have HC3 := Aside0.mk hC3
  have HL3 := Aside0.mk hl3
  have t0 : decide (i < 0) = false := decide_eq_false (by omega)
  have t1 : (f.f1 == (vals.length : Int)) = true := by simpa using HP.out
  have t2 : (f.f1 != (vals.length : Int)) = false := by simpa using HP.out
  clear hC3 hl3
  go_upto_region 5 with (fail)
  obtain ⟨i0, hi, hz0, hz1, hz2⟩ := info_parts info3
  obtain ⟨wA, hwA⟩ : ∃ wA : World, wA = w1.alloc (Obj.cells #[Value.string f.f0, Value.int IntKind.i64 f.f1, Value.int IntKind.i64 f.f2, Value.slice A3 f.f3.length c3] 24) := ⟨_, rfl⟩
  have FA := Aside0.mk (show wA.heap[w1.heap.size]? = some (.cells #[Value.string f.f0, Value.int IntKind.i64 f.f1, Value.int IntKind.i64 f.f2, Value.slice A3 f.f3.length c3] 24 (0, 0)) by rw [hwA]; exact blk_new w1 _)
  have BA := Aside0.mk (show Below w1.heap.size w1 wA by rw [hwA]; exact below_alloc (Below.refl _ _) _)
  rw [← hwA]
  clear hwA x0 x1 x2 x3 c0 c0'
  have f2c := (blk_cell FA.out 2).trans rfl
  go_upto_region 6 with (at_make; refine wpList_make_full _ rfl _ _ 26 rfl wA.heap.size 3 i0 (.int .i64 0) 1 Tryd.underlying26 hi hz0 hz1 .i64 .i64 f.f2 f.f2 f.f2.toNat rfl rfl (by omega) (by omega) (by rw [hz2]; omega) (by unfold maxLen; omega) (Nat.le_refl _) ?_; intro w5 hown hgrow; have HG5 := Aside0.mk (own_full hown); have HB5 := Aside0.mk (below_grown_none hgrow); clear hown hgrow f2c)
  have HG6 := Aside0.mk (show w5.heap[wA.heap.size]? = some (.cells (List.replicate f.f2.toNat (Value.int .i64 0)).toArray 3 (0, 0)) by
    have h := HG5.out
    rwa [show (Value.int .i64 0).cells = #[.int .i64 0] from rfl, Nat.mul_one, toList_madeCells_one] at h)
  have HV5 := Aside0.mk (C_int_copy (Kd.C_below HV.out (below_then (below_then HB1.out HB1.out.size BA.out) (Nat.le_trans HB1.out.size BA.out.size) HB5.out)) f.f2.toNat)
  clear HG5
  go_upto_region 7 with (refine wpList_copy_splice rfl _ _ 26 26 rfl 3 Tryd.underlying26 (by kernel_rfl) _ _ f.f2.toNat f.f2.toNat vals.length c2 rfl rfl wA.heap.size 0 _ 3 HG6.out ((vals.take f.f2.toNat).map (Value.int .i64)) (by rw [List.length_map, List.length_take]; exact Nat.min_comm _ _) (fun hp => ⟨rfl, HV5.out hp⟩) (by simp; omega) (fun v hv => by obtain ⟨x, _, rfl⟩ := List.mem_map.1 hv; rfl) wA.heap.size wA HB5.out (Nat.le_refl _) ?_; intro w6 hs hb; have HS6 := Aside0.mk hs; have HB6 := Aside0.mk hb; clear hs hb)
  obtain ⟨g0, g1, g2⟩ := gb_some HGB.out
  have HW16 := Aside0.mk (below_then BA.out BA.out.size HB6.out)
  obtain ⟨ad3, A4, c4, e3, b0, hl4, hC4⟩ := at_LT32 HC3.out 0 (by omega) (by omega)
  replace b0 := ((below_step HW01.out HW16.out).cell (World.block_lt_of_cell? w0 _ b0)).trans b0
  rw [g2] at b0 hl4 hC4
  rw [show (0 : Int).toNat = 0 from rfl, Addr.add_zero'] at b0
  cases e3
  have q1 : (0 : Int) < (f.f3.length : Int) := g1
  have HC4 := Aside0.mk hC4
  have HL4 := Aside0.mk hl4
  have G2 := Aside0.mk g2
  have f3c := (blk_cell (blk_below FA.out HB6.out) 3).trans rfl
  clear g2 hC4 hl4 g0
  have HR6 := Aside0.mk (show RunW w0 g wA.heap.size w1.heap.size go gm (.slice (some ad) mod.length cM) #[Value.string f.f0, Value.int IntKind.i64 f.f1, Value.int IntKind.i64 f.f2, Value.slice (some ad3) f.f3.length c3] O Mc fuel (regs0 vals f.f2.toNat) mem [] 0 w6 from
    ⟨⟨.slice none 0 0, blk_below HBK1.out HW16.out, Kd.R_nil _ _ _ _ _⟩, HML.out, by rw [← regs0_cells]; exact HS6.out.out, blk_below FA.out HB6.out, blk_below HO.out (below_then HB1.out HB1.out.size HW16.out), blk_below HM.out (below_then HB1.out HB1.out.size HW16.out), below_step HB0.out (below_then HB1.out HB1.out.size HW16.out), hg, by have := HB0.out.size; have := HB1.out.size; have := BA.out.size; omega⟩)
  go_wp2
  clear b0 f3c
  go_loopg [12] k (fun kq v12 wr => ∃ (r mem told : List Int) (steps : Int) (rest : List S32) (A' : Option Addr) (c' : Nat), v12 = .slice A' rest.length c' ∧ rest.length ≤ c' ∧ 0 ≤ steps ∧ Aside0 (r.length = f.f2.toNat) ∧ Aside0 (Kd.C k32 w0 A' rest.length rest) ∧ Aside0 (runL f.f3 fuel kq r rest mem told steps = some res) ∧ Aside0 (kq ≤ k) ∧ Aside0 (RunW w0 g wA.heap.size w1.heap.size go gm (.slice (some ad) mod.length cM) #[Value.string f.f0, Value.int IntKind.i64 f.f1, Value.int IntKind.i64 f.f2, Value.slice (some ad3) f.f3.length c3] O Mc fuel r mem told steps wr))
  case atStart => exact ⟨_, _, _, _, b, A4, c4, rfl, HL4.out, by omega, ⟨regs0_length _ _⟩, HC4, H, ⟨Nat.le_refl _⟩, HR6⟩
  case round =>
    clear H HR6 HC4 HL4
    obtain ⟨r, mem, told, steps, rest, A', c', rfl, hrc, hst, HRL, HC, H, HK, HR6⟩ := hrel
    cases gk with
    | zero => exact absurd H.out (by simp [runL])
    | succ k1 =>
      have h := H.out
      clear H
      by_cases hfs : fuel ≤ steps
      · rw [runL_out hfs] at h
        obtain rfl := Option.some.inj h
        clear h
        obtain ⟨tv, hm1, hm2⟩ := HR6.out.m
        have HM1 := Aside0.mk hm1
        clear hm1 hm2
        go_wp2_with (go_at_call 73; refine (run_step.out _ tv mem fuel steps g _ HR6.out.ml HM1.out hfs).mono ?_; rintro e w' ⟨rfl, n, rfl⟩)
        exact ⟨rfl, (HR6.out.drewN _).post 3 0 rfl⟩
      · cases rest with
        | nil =>
          rw [runL_nil hfs] at h
          cases h
        | cons x rest =>
          rw [runL_cons hfs] at h
          have H := Aside0.mk h
          clear h
          obtain ⟨tv, hm1, hm2⟩ := HR6.out.m
          have HM1 := Aside0.mk hm1
          clear hm1 hm2
          go_upto_region 9 with (go_at_call 73; refine (run_step.go _ tv mem fuel steps g _ HR6.out.ml HM1.out (by omega) hfu hst).mono ?_; rintro e w' ⟨rfl, n, rfl⟩)
          have HR7 := Aside0.mk ((HR6.out.drewN n).setSteps (steps + 1))
          generalize ((wr.drewN n).setCell ⟨g, 259, none⟩ (.int .i64 (steps + 1))) = w7 at HR7 ⊢
          clear HR6 HM1
          obtain ⟨ad2, A5, c5, e4, x0, x1, x2, x3, x4, x5, hl5, hC5⟩ := at_T32 HC.out 0 (by omega) (by simp)
          rw [show rd_T32 (x :: rest) 0 = x from rfl] at x0 x1 x2 x3 x4 x5 hl5 hC5
          rw [show (0 : Int).toNat * 6 = 0 from rfl, Addr.add_zero'] at x0 x1 x2 x3 x4 x5
          subst e4
          replace x0 := (HR7.out.b.cell (World.block_lt_of_cell? w0 _ x0)).trans x0
          replace x1 := (HR7.out.b.cell (World.block_lt_of_cell? w0 _ x1)).trans x1
          replace x2 := (HR7.out.b.cell (World.block_lt_of_cell? w0 _ x2)).trans x2
          replace x3 := (HR7.out.b.cell (World.block_lt_of_cell? w0 _ x3)).trans x3
          replace x4 := (HR7.out.b.cell (World.block_lt_of_cell? w0 _ x4)).trans x4
          replace x5 := (HR7.out.b.cell (World.block_lt_of_cell? w0 _ x5)).trans x5
          have hin : (0 : Int) < ((rest.length + 1 : Nat) : Int) := by omega
          clear hl5 hC5
          go_upto_region 10 with (fail)
          have HR8 := Aside0.mk (HR7.out.alloc (.cells #[Value.int IntKind.i64 x.f0, Value.int IntKind.i64 x.f1, Value.int IntKind.i64 x.f2, Value.int IntKind.i64 x.f3, Value.string x.f4, Value.slice A5 x.f5.length c5] 32 (0, 0)))
          have HX8 := Aside0.mk (blk_new w7 (.cells #[Value.int IntKind.i64 x.f0, Value.int IntKind.i64 x.f1, Value.int IntKind.i64 x.f2, Value.int IntKind.i64 x.f3, Value.string x.f4, Value.slice A5 x.f5.length c5] 32 (0, 0)))
          clear HR7 x0 x1 x2 x3 x4 x5
          generalize w7.heap.size = gx at HX8 ⊢
          generalize (w7.alloc (.cells #[Value.int IntKind.i64 x.f0, Value.int IntKind.i64 x.f1, Value.int IntKind.i64 x.f2, Value.int IntKind.i64 x.f3, Value.string x.f4, Value.slice A5 x.f5.length c5] 32 (0, 0))) = w8 at HX8 HR8 ⊢
          go_cut [12] (fun v12 wc => ∃ (A' : Option Addr) (c' : Nat), v12 = .slice A' rest.length c' ∧ Aside0 (rest.length ≤ c') ∧ Aside0 (Kd.C k32 w0 A' rest.length rest) ∧ Aside0 (wc = w8))
          case first =>
            as_aux_lemma =>
            have HD := Kd.C_drop (m := 1) HC.out (by simp) hrc
            by_cases hc1 : c' = 1
            · rw [if_pos hc1] at HD
              have HD1 := Aside0.mk (show Kd.C k32 w0 (some ad2) rest.length rest from HD)
              subst hc1
              clear HD
              go_wp2
              go_meet
              case rel => exact ⟨_, _, rfl, ⟨by have := hrc; rw [List.length_cons] at this; omega⟩, HD1, ⟨rfl⟩⟩
            · rw [if_neg hc1] at HD
              have HD1 := Aside0.mk (show Kd.C k32 w0 (some (ad2.add 6)) rest.length rest from HD)
              have hc2 : 1 ≤ c' := by have := hrc; rw [List.length_cons] at this; omega
              clear HD
              go_wp2
              go_meet
              case rel => exact ⟨_, _, rfl, ⟨by have := hrc; rw [List.length_cons] at this; omega⟩, HD1, ⟨rfl⟩⟩
          case rest =>
            as_aux_lemma =>
            clear HC
            obtain ⟨A6, c6, rfl, HL6, HC, hw8⟩ := hcut
            obtain ⟨hw8⟩ := hw8
            subst hw8
            have x0 := (blk_cell HX8.out 0).trans rfl
            have x1 := (blk_cell HX8.out 1).trans rfl
            have x2 := (blk_cell HX8.out 2).trans rfl
            have x3 := (blk_cell HX8.out 3).trans rfl
            have h := H.out
            clear H
            unfold instrL at h
            by_cases e1 : x.f0 = 1
            · as_aux_lemma =>
              rw [if_pos e1] at h
              have b1 : (x.f0 == 1) = true := by simpa using e1
              clear e1
              replace h := Option.bind_eq_some_iff.mp h
              obtain ⟨r', hs, h⟩ := h
              obtain ⟨i0_, i1_, rfl⟩ := si_some hs
              have i2_ : x.f1 < (f.f2.toNat : Int) := by have := HRL.out; omega
              have ic := HR8.out.rc x.f1.toNat (by omega)
              have fz := HR8.out.rf x.f1.toNat
              clear hs
              have H := Aside0.mk h
              clear h
              go_wp2
              go_roundg k1
              case measure => omega
              case rel => exact ⟨_, _, _, _, rest, A6, c6, rfl, HL6.out, by omega, ⟨by rw [List.length_set]; exact HRL.out⟩, HC, H, ⟨by have := HK.out; omega⟩, ⟨HR8.out.setR _ _ (by omega)⟩⟩
            rw [if_neg e1] at h
            have b1 : (x.f0 == 1) = false := by simpa using e1
            clear e1
            by_cases e2 : x.f0 = 2
            · as_aux_lemma =>
              rw [if_pos e2] at h
              have b2 : (x.f0 == 2) = true := by simpa using e2
              clear e2
              replace h := Option.bind_eq_some_iff.mp h
              obtain ⟨v, hvj, h⟩ := h
              obtain ⟨j0_, j1_, rfl⟩ := gi_some hvj
              have j2_ : x.f2 < (f.f2.toNat : Int) := by have := HRL.out; omega
              have jc := HR8.out.rc x.f2.toNat (by omega)
              rw [Int.toNat_of_nonneg j0_] at jc
              clear hvj
              replace h := Option.bind_eq_some_iff.mp h
              obtain ⟨r', hs, h⟩ := h
              obtain ⟨i0_, i1_, rfl⟩ := si_some hs
              have i2_ : x.f1 < (f.f2.toNat : Int) := by have := HRL.out; omega
              have ic := HR8.out.rc x.f1.toNat (by omega)
              have fz := HR8.out.rf x.f1.toNat
              clear hs
              have H := Aside0.mk h
              clear h
              go_upto_region 19 with (fail)
              go_region
              go_wp2
              go_roundg k1
              case measure => omega
              case rel => exact ⟨_, _, _, _, rest, A6, c6, rfl, HL6.out, by omega, ⟨by rw [List.length_set]; exact HRL.out⟩, HC, H, ⟨by have := HK.out; omega⟩, ⟨HR8.out.drew.setR _ _ (by omega)⟩⟩
            rw [if_neg e2] at h
            have b2 : (x.f0 == 2) = false := by simpa using e2
            clear e2
            by_cases e8 : x.f0 = 8
            · as_aux_lemma =>
              rw [if_pos e8] at h
              have b8 : (x.f0 == 8) = true := by simpa using e8
              clear e8
              replace h := Option.bind_eq_some_iff.mp h
              obtain ⟨v, hvj, h⟩ := h
              obtain ⟨j0_, j1_, rfl⟩ := gi_some hvj
              have j2_ : x.f2 < (f.f2.toNat : Int) := by have := HRL.out; omega
              have jc := HR8.out.rc x.f2.toNat (by omega)
              rw [Int.toNat_of_nonneg j0_] at jc
              clear hvj
              by_cases ha : 0 ≤ rd r x.f2
              · rw [if_pos ha] at h
                replace h := Option.bind_eq_some_iff.mp h
                obtain ⟨r', hs, h⟩ := h
                obtain ⟨i0_, i1_, rfl⟩ := si_some hs
                have i2_ : x.f1 < (f.f2.toNat : Int) := by have := HRL.out; omega
                have ic := HR8.out.rc x.f1.toNat (by omega)
                have fz := HR8.out.rf x.f1.toNat
                clear hs
                have H := Aside0.mk h
                clear h
                have m0_ : 0 ≤ rd r x.f2 % 256 := by omega
                have m1_ : rd r x.f2 % 256 < 256 := by omega
                have mc := HR8.out.mc (rd r x.f2 % 256).toNat (by omega)
                rw [Int.toNat_of_nonneg m0_] at mc
                go_upto_region 21 with (fail)
                go_region
                go_wp2
                go_roundg k1
                case measure => omega
                case rel => exact ⟨_, _, _, _, rest, A6, c6, rfl, HL6.out, by omega, ⟨by rw [List.length_set]; exact HRL.out⟩, HC, H, ⟨by have := HK.out; omega⟩, ⟨HR8.out.drew.setR _ _ (by omega)⟩⟩
              · rw [if_neg ha] at h
                cases h
            rw [if_neg e8] at h
            have b8 : (x.f0 == 8) = false := by simpa using e8
            clear e8
            by_cases e9 : x.f0 = 9
            · as_aux_lemma =>
              rw [if_pos e9] at h
              have b9 : (x.f0 == 9) = true := by simpa using e9
              clear e9
              replace h := Option.bind_eq_some_iff.mp h
              obtain ⟨v, hvj, h⟩ := h
              obtain ⟨j0_, j1_, rfl⟩ := gi_some hvj
              have j2_ : x.f2 < (f.f2.toNat : Int) := by have := HRL.out; omega
              have jc := HR8.out.rc x.f2.toNat (by omega)
              rw [Int.toNat_of_nonneg j0_] at jc
              clear hvj
              by_cases ha : 0 ≤ rd r x.f2
              · rw [if_pos ha] at h
                replace h := Option.bind_eq_some_iff.mp h
                obtain ⟨v2, hvl, h⟩ := h
                obtain ⟨l0_, l1_, rfl⟩ := gi_some hvl
                have l2_ : x.f3 < (f.f2.toNat : Int) := by have := HRL.out; omega
                have lc := HR8.out.rc x.f3.toNat (by omega)
                rw [Int.toNat_of_nonneg l0_] at lc
                clear hvl
                have H := Aside0.mk h
                clear h
                have m0_ : 0 ≤ rd r x.f2 % 256 := by omega
                have m1_ : rd r x.f2 % 256 < 256 := by omega
                have mc := HR8.out.mc (rd r x.f2 % 256).toNat (by omega)
                rw [Int.toNat_of_nonneg m0_] at mc
                have mf := HR8.out.mf (1 + (rd r x.f2 % 256).toNat)
                go_upto_region 23 with (fail)
                go_region
                go_wp2
                go_roundg k1
                case measure => omega
                case rel => exact ⟨_, _, _, _, rest, A6, c6, rfl, HL6.out, by omega, HRL, HC, H, ⟨by have := HK.out; omega⟩, ⟨HR8.out.drew.setMem _ _ (by omega)⟩⟩
              · rw [if_neg ha] at h
                cases h
            rw [if_neg e9] at h
            have b9 : (x.f0 == 9) = false := by simpa using e9
            clear e9
            by_cases e10 : x.f0 = 10
            · as_aux_lemma =>
              rw [if_pos e10] at h
              have b10 : (x.f0 == 10) = true := by simpa using e10
              clear e10
              replace h := Option.bind_eq_some_iff.mp h
              obtain ⟨v, hvj, h⟩ := h
              obtain ⟨j0_, j1_, rfl⟩ := gi_some hvj
              have j2_ : x.f2 < (f.f2.toNat : Int) := by have := HRL.out; omega
              have jc := HR8.out.rc x.f2.toNat (by omega)
              rw [Int.toNat_of_nonneg j0_] at jc
              clear hvj
              by_cases hl : told.length < 17592186044416
              · rw [if_pos hl] at h
                have H := Aside0.mk h
                obtain ⟨tv, hm1, hm2⟩ := HR8.out.m
                have HM1 := Aside0.mk hm1
                have HM2 := Aside0.mk hm2
                have mc := (blk_cell hm1 257).trans (mCells_told _ _ _ _ _ HR8.out.ml)
                clear h hm1 hm2
                go_upto_region 25 with (fail)
                have hgr := blk_lt HR8.out.r
                have hw0 := HR8.out.b.size
                have j3_ := eq_true (show x.f2 < max f.f2 0 by omega)
                replace j0_ := eq_true j0_
                have mca := (blk_cell (blk_alloc HM1.out (.cells #[.int .i64 (rd r x.f2)] 3 (0, 0))) 257).trans (mCells_told _ _ _ _ _ HR8.out.ml)
                go_region_law (refine Kd.R_append_step (Kd.int .i64) (w0 := w0) (W := wc.drew) w0.heap.size (by rfl) (.tmp 157) (.tmp 163) 26 3 (.int .i64 0) 8 (by rfl) Tryd.underlying26 info3 rfl (by decide) (by omega) tv told (rd r x.f2) [.int .i64 (rd r x.f2)] (fun k => k ≠ wA.heap.size) (fun _ => False) (by rfl) (by rfl) rfl (fun _ hk => hk.elim) (fun k (hk : wc.heap.size ≤ k) => by omega) (Kd.R_drew HM2.out) (below_drew HR8.out.b) hw0 (by omega) ?_; intro v1 w9 hR9 hB9 hg9 hat9; obtain ⟨A9, c9, rfl⟩ := Kd.R_slice hR9; rw [show (told ++ [rd r x.f2]).length = told.length + 1 by simp] at hR9; have HR9 := Aside0.mk (HR8.out.drew.grow (blk_drew HM1.out) (Kd.R_drew HM2.out) hg9 hR9 hB9); have mc9 := (blk_cell (blk_grown (blk_drew HM1.out) hg9 (Kd.R_ne (Kd.R_drew HM2.out) (blk_drew HM1.out) (by decide))) 257).trans (mCells_told _ _ _ _ _ HR8.out.ml); have mf9 := blk_frozen (blk_grown (blk_drew HM1.out) hg9 (Kd.R_ne (Kd.R_drew HM2.out) (blk_drew HM1.out) (by decide))) 257; clear hR9 hB9 hg9 hat9)
                all_goals
                  go_wp2
                  go_roundg k1
                  case measure => omega
                  case rel => exact ⟨_, _, _, _, rest, A6, c6, rfl, HL6.out, by omega, HRL, HC, H, ⟨by have := HK.out; omega⟩, HR9⟩
              · rw [if_neg hl] at h
                cases h
            rw [if_neg e10] at h
            have b10 : (x.f0 == 10) = false := by simpa using e10
            clear e10
            by_cases e11 : x.f0 = 11
            · as_aux_lemma =>
              rw [if_pos e11] at h
              have b11 : (x.f0 == 11) = true := by simpa using e11
              clear e11
              cases h
            rw [if_neg e11] at h
            have b11 : (x.f0 == 11) = false := by simpa using e11
            clear e11
            by_cases e12 : x.f0 = 12
            · as_aux_lemma =>
              rw [if_pos e12] at h
              have b12 : (x.f0 == 12) = true := by simpa using e12
              clear e12
              replace h := Option.bind_eq_some_iff.mp h
              obtain ⟨b2, hvp, h⟩ := h
              obtain ⟨p0_, p1_, rfl⟩ := gb_some hvp
              obtain ⟨adp, Ap, cp, ep, pb, hlp, hCp⟩ := at_LT32 HC3.out x.f2 p0_ p1_
              obtain rfl : ad3 = adp := by injection ep
              replace pb := (HR8.out.b.cell (World.block_lt_of_cell? w0 _ pb)).trans pb
              have HCp := Aside0.mk hCp
              have HLp := Aside0.mk hlp
              clear hvp hlp hCp ep
              have H := Aside0.mk h
              clear h
              have f3c := (blk_cell HR8.out.f 3).trans rfl
              go_wp2
              go_roundg k1
              case measure => omega
              case rel => exact ⟨_, _, _, _, _, Ap, cp, rfl, HLp.out, by omega, HRL, HCp, H, ⟨by have := HK.out; omega⟩, HR8⟩
            rw [if_neg e12] at h
            have b12 : (x.f0 == 12) = false := by simpa using e12
            clear e12
            by_cases e13 : x.f0 = 13
            · as_aux_lemma =>
              rw [if_pos e13] at h
              have b13 : (x.f0 == 13) = true := by simpa using e13
              clear e13
              replace h := Option.bind_eq_some_iff.mp h
              obtain ⟨b2, hvp, h⟩ := h
              obtain ⟨p0_, p1_, rfl⟩ := gb_some hvp
              obtain ⟨adp, Ap, cp, ep, pb, hlp, hCp⟩ := at_LT32 HC3.out x.f1 p0_ p1_
              obtain rfl : ad3 = adp := by injection ep
              replace pb := (HR8.out.b.cell (World.block_lt_of_cell? w0 _ pb)).trans pb
              have HCp := Aside0.mk hCp
              have HLp := Aside0.mk hlp
              clear hvp hlp hCp ep
              replace h := Option.bind_eq_some_iff.mp h
              obtain ⟨v, hvj, h⟩ := h
              obtain ⟨j0_, j1_, rfl⟩ := gi_some hvj
              have j2_ : x.f2 < (f.f2.toNat : Int) := by have := HRL.out; omega
              have jc := HR8.out.rc x.f2.toNat (by omega)
              rw [Int.toNat_of_nonneg j0_] at jc
              clear hvj
              have f3c := (blk_cell HR8.out.f 3).trans rfl
              by_cases ha : rd r x.f2 = 0
              · rw [if_pos ha] at h
                have za : (rd r x.f2 == 0) = true := by simpa using ha
                have zb : (rd r x.f2 != 0) = false := by simpa using ha
                clear ha
                have H := Aside0.mk h
                clear h
                go_wp2
                go_roundg k1
                case measure => omega
                case rel => exact ⟨_, _, _, _, _, Ap, cp, rfl, HLp.out, by omega, HRL, HCp, H, ⟨by have := HK.out; omega⟩, HR8⟩
              · rw [if_neg ha] at h
                have za : (rd r x.f2 == 0) = false := by simpa using ha
                have zb : (rd r x.f2 != 0) = true := by simpa using ha
                clear ha
                replace h := Option.bind_eq_some_iff.mp h
                obtain ⟨b3, hvq, h⟩ := h
                obtain ⟨q0_, q1_, rfl⟩ := gb_some hvq
                obtain ⟨adq, Aq, cq, eq, qb, hlq, hCq⟩ := at_LT32 HC3.out x.f3 q0_ q1_
                obtain rfl : ad3 = adq := by injection eq
                replace qb := (HR8.out.b.cell (World.block_lt_of_cell? w0 _ qb)).trans qb
                have HCq := Aside0.mk hCq
                have HLq := Aside0.mk hlq
                clear hvq hlq hCq eq
                have H := Aside0.mk h
                clear h
                go_wp2
                go_roundg k1
                case measure => omega
                case rel => exact ⟨_, _, _, _, _, Aq, cq, rfl, HLq.out, by omega, HRL, HCq, H, ⟨by have := HK.out; omega⟩, HR8⟩
            rw [if_neg e13] at h
            have b13 : (x.f0 == 13) = false := by simpa using e13
            clear e13
            by_cases e14 : x.f0 = 14
            · as_aux_lemma =>
              rw [if_pos e14] at h
              have b14 : (x.f0 == 14) = true := by simpa using e14
              clear e14
              replace h := Option.bind_eq_some_iff.mp h
              obtain ⟨v, hvj, h⟩ := h
              obtain ⟨j0_, j1_, rfl⟩ := gi_some hvj
              have j2_ : x.f2 < (f.f2.toNat : Int) := by have := HRL.out; omega
              have jc := HR8.out.rc x.f2.toNat (by omega)
              rw [Int.toNat_of_nonneg j0_] at jc
              clear hvj
              obtain rfl := Option.some.inj h
              clear h
              go_wp2
              go_ret
              exact HR8.out.post 1 _ rfl
            rw [if_neg e14] at h
            have b14 : (x.f0 == 14) = false := by simpa using e14
            clear e14
            replace h := Option.bind_eq_some_iff.mp h
            obtain ⟨v, hvj, h⟩ := h
            obtain ⟨j0_, j1_, rfl⟩ := gi_some hvj
            have j2_ : x.f2 < (f.f2.toNat : Int) := by have := HRL.out; omega
            have jc := HR8.out.rc x.f2.toNat (by omega)
            rw [Int.toNat_of_nonneg j0_] at jc
            replace h := Option.bind_eq_some_iff.mp h
            obtain ⟨v2, hvl, h⟩ := h
            obtain ⟨l0_, l1_, rfl⟩ := gi_some hvl
            have l2_ : x.f3 < (f.f2.toNat : Int) := by have := HRL.out; omega
            have lc := HR8.out.rc x.f3.toNat (by omega)
            rw [Int.toNat_of_nonneg l0_] at lc
            clear hvj hvl
            replace h := Option.bind_eq_some_iff.mp h
            obtain ⟨⟨n1, n2⟩, hop, h⟩ := h
            have HOP := fun W => run_Op.calls x.f0 (rd r x.f2) (rd r x.f3) n1 n2 W hop
            have HOPA := Aside0.mk HOP
            clear hop HOP
            cases n2 with
            | false =>
              rw [if_neg (by simp)] at h
              obtain rfl := Option.some.inj h
              clear h
              go_upto_region 12 with (fail)
              go_quiet ((go_at_call 74; exact quiet_of_drawn (HOPA.out _)))
              go_wp2
              exact ⟨rfl, (HR8.out.drewN _).post 2 0 rfl⟩
            | true =>
              rw [if_pos rfl] at h
              replace h := Option.bind_eq_some_iff.mp h
              obtain ⟨r', hs, h⟩ := h
              obtain ⟨i0_, i1_, rfl⟩ := si_some hs
              have i2_ : x.f1 < (f.f2.toNat : Int) := by have := HRL.out; omega
              have ic := HR8.out.rc x.f1.toNat (by omega)
              have fz := HR8.out.rf x.f1.toNat
              clear hs
              have H := Aside0.mk h
              clear h
              go_upto_region 12 with (fail)
              go_quiet ((go_at_call 74; exact quiet_of_drawn (HOPA.out _)))
              go_wp2
              go_roundg k1
              case measure => omega
              case rel => exact ⟨_, _, _, _, rest, A6, c6, rfl, HL6.out, by omega, ⟨by rw [List.length_set]; exact HRL.out⟩, HC, H, ⟨by have := HK.out; omega⟩, ⟨(HR8.out.drewN _).setR _ _ (by omega)⟩⟩
end Go.Proofs.YtoilapjkgligfaaDoor.P
