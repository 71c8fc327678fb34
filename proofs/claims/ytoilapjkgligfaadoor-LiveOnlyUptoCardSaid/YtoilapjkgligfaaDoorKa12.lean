import Derived.Test.YtoilapjkgligfaaDoorKP
import Derived.Test.YtoilapjkgligfaaDoorKa11
import Derived.Test.YtoilapjkgligfaaDoorKGLiveA
import Derived.Test.YtoilapjkgligfaaDoorRows
import Derived.WalkKit
import Derived.ProofKit
import Derived.OpenShut
import Derived.ChangeOld
import Derived.Lib.LaidTab
import Derived.Deep.Slices
import Derived.Lib.SmallJoins
namespace Go.Proofs.YtoilapjkgligfaaDoor.P
set_option linter.unusedVariables false
open Go.RowKit Go.Proofs.YtoilapjkgligfaaDoorW.PrintWords Go.Proofs.YtoilapjkgligfaaDoorW.PrintLast Go.Proofs.YtoilapjkgligfaaDoorW.PrintMore

def mkI (value p : Int) (i : Nat) : Ins := ⟨1, p + (i : Int), value, 0, ByteArray.empty, []⟩
theorem firstL_eq (value p r : Int) : firstL value p r = (List.range' 0 (r - p).toNat).map (mkI value p) := by
  unfold firstL
  rw [List.range_eq_range']
  rfl
theorem first_run (value p r : Int) (l : Blocks) (F : Int) (mem told : List Int) (hF : ((r - p).toNat : Int) + 1 ≤ F) (h0 : 0 ≤ p) (hv : 0 ≤ value) (hl : 1 ≤ l.length) (m : Nat) : ∀ (d i : Nat) (rg : List Int), i + d = (r - p).toNat → (rg.length : Int) = r → Nn rg →
    ∃ rg', runL (madeL value p r l) F (m + (d + 1)) rg ((List.range' i d).map (mkI value p) ++ [jumpI]) mem told (i : Int) = runL (madeL value p r l) F m rg' ((row l 0).map shiftI) mem told (((r - p).toNat + 1 : Nat) : Int) ∧ (rg'.length : Int) = r ∧ Nn rg' ∧ ∀ z, 0 ≤ z → z < p → rd rg' z = rd rg z := by
  intro d
  induction d with
  | zero =>
    intro i rg hi hlen hn
    refine ⟨rg, ?_, hlen, hn, fun _ _ _ => rfl⟩
    have hg := gb_made value p r l 0 (by omega) (by omega)
    have e1 : ((i : Int) + 1) = (((r - p).toNat + 1 : Nat) : Int) := by omega
    rw [show m + (0 + 1) = m + 1 from rfl, List.range'_zero, List.map_nil, List.nil_append, runL_cons (by omega), in12 rfl]
    show (gb (madeL value p r l) (0 + 1)).bind _ = _
    rw [hg, Option.bind_some, e1]
    rfl
  | succ d ih =>
    intro i rg hi hlen hn
    have e1 : ((i : Int) + 1) = ((i + 1 : Nat) : Int) := by omega
    rw [show m + (d + 1 + 1) = m + (d + 1) + 1 from rfl, List.range'_succ, List.map_cons, List.cons_append, runL_cons (by omega), in1 rfl]
    show ∃ rg', (si rg (p + (i : Int)) value).bind _ = _ ∧ _
    rw [si_ok rg _ _ (by omega) (by omega), Option.bind_some, e1]
    obtain ⟨rg', h1, h2, h3, h4⟩ := ih (i + 1) (rg.set (p + (i : Int)).toNat value) (by omega) (by simpa using hlen) (hn.set _ _ hv)
    refine ⟨rg', h1, h2, h3, fun z z0 z1 => ?_⟩
    rw [h4 z z0 z1, rd_set rg _ _ (by omega), if_neg (by omega)]
theorem rd_nn {l : List Int} (h : ∀ v ∈ l, 0 ≤ v) : Nn l := fun i => by
  unfold rd
  rw [List.getD]
  cases hg : l[i.toNat]? with
  | none => exact Int.le_refl _
  | some v => exact h v (List.mem_of_getElem? hg)
theorem regs0_nn (args : List Int) (n : Nat) : Nn (regs0 (args.map word) n) := rd_nn fun v hv => by
  unfold regs0 at hv
  rcases List.mem_append.1 hv with h | h
  · obtain ⟨a, _, rfl⟩ := List.mem_map.1 (List.mem_of_mem_take h)
    exact (word_rng a).1
  · rw [(List.mem_replicate.1 h).2]
    exact Int.le_refl _
theorem mem0_nn (mem : List Int) : Nn (mem0 mem) := rd_nn fun v hv => by
  unfold mem0 at hv
  obtain ⟨i, _, rfl⟩ := List.mem_map.1 hv
  split
  · exact (word_rng _).1
  · exact Int.le_refl _
theorem clamp_ok (n : Int) (h0 : 0 ≤ n) (h1 : n ≤ 1048576) : clampFuel n = n := by unfold clampFuel; omega
theorem run_one (k : Nat) (nm : ByteArray) (p r : Int) (l : Blocks) (args mem : List Int) (fuel : Int) : run_Run.f k [⟨nm, p, r, l⟩] nm args mem fuel = if p ≠ (args.length : Int) then some (2, 0, [], mem0 mem, 0) else if 0 ≤ r ∧ r ≤ 1000 then (gb l 0).bind fun b => runL l (clampFuel fuel) k (regs0 (args.map word) r.toNat) b (mem0 mem) [] 0 else none := by
  unfold run_Run.f runCall
  rw [List.find?_cons_of_pos (by simp)]
  simp only [List.length_map]
theorem live_runs (nm : ByteArray) (p r value : Int) (l : Blocks) (hW : WF nm p r l) (hc : ∀ i j : Nat, i < l.length → j < (row l i).length → (at_ l i j).f0 ≠ 11) (R : List (List Int)) (hP : PostFix R l r) (hR0 : ∀ z ∈ rd_Li64 R 0, z < p) (hv : 0 ≤ value)
    (args mem : List Int) (fuel : Int) (hf0 : 0 ≤ fuel) (hf1 : fuel ≤ 1000) (k : Nat) (hk : 10000000 ≤ k) : LiveRuns k nm p r l (madeL value p r l) args mem fuel ((r - p).toNat + 1) := by
  obtain ⟨p0, p4, pr, r64, n1, n32, hlen, _⟩ := hW.shape
  have hm0 : (mem0 mem).length = 256 := by simp [mem0]
  by_cases ha : p = (args.length : Int)
  · have hgb : gb l 0 = some (row l 0) := gb_row l 0 (by omega) (by omega)
    have hgg : gb (madeL value p r l) 0 = some (firstL value p r ++ [jumpI]) := by
      unfold gb madeL
      rw [if_pos (by omega), if_pos (by simp)]
      rfl
    have hlr : ((regs0 (args.map word) r.toNat).length : Int) = r := by
      unfold regs0
      simp
      omega
    obtain ⟨m, rfl⟩ : ∃ m, k = m + ((r - p).toNat + 1) := ⟨k - ((r - p).toNat + 1), by omega⟩
    obtain ⟨rg, h1, h2, h3, h4⟩ := first_run value p r l (fuel + (((r - p).toNat + 1 : Nat) : Int)) (mem0 mem) [] (by omega) p0 hv n1 m (r - p).toNat 0 (regs0 (args.map word) r.toNat) (by omega) hlr (regs0_nn args _)
    have hS : SimS R l r 0 0 (regs0 (args.map word) r.toNat) rg (mem0 mem) [] 0 := by
      refine ⟨by omega, (hlen 0 (by omega)).1, hlr, h2, regs0_nn args _, h3, mem0_nn mem, hm0, fun z hz => ?_, by simp⟩
      have hz2 := hP.fix 0 (by omega) z hz
      exact (h4 z (live_rng hz).1 (hR0 z hz2)).symm
    obtain ⟨kd, v, t, mm, s, e1, e2, s0, s1, tl, ml⟩ := sim nm p r value l hW hc R hP fuel (by omega) ((r - p).toNat + 1) fuel.toNat (m + ((r - p).toNat + 1)) m 0 0 _ _ _ _ 0 (by omega) (by omega) (by omega) (by omega) hf0 hS
    refine ⟨(kd, v, t, mm, s), (kd, v, t, mm, s + (((r - p).toNat + 1 : Nat) : Int)), ?_, ?_, ⟨fun h => absurd ha.symm h, fun _ => ⟨rfl, s0, by show s ≤ 2000000; omega⟩⟩, same_self t _ (by omega) (by omega), same_self mm _ (by omega) (by omega)⟩
    · rw [run_one, if_neg (fun h => h ha), if_pos ⟨by omega, by omega⟩, hgb, Option.bind_some, clamp_ok fuel hf0 (by omega)]
      exact e1
    · rw [run_one, if_neg (fun h => h ha), if_pos ⟨by omega, by omega⟩, hgg, Option.bind_some, clamp_ok _ (by omega) (by omega), firstL_eq]
      have e3 := h1.trans ((show runL (madeL value p r l) (fuel + (((r - p).toNat + 1 : Nat) : Int)) m rg ((row l 0).map shiftI) (mem0 mem) [] (((r - p).toNat + 1 : Nat) : Int) = some (kd, v, t, mm, s + (((r - p).toNat + 1 : Nat) : Int)) by
        have e4 := e2
        rw [List.drop_zero, Int.zero_add] at e4
        exact e4))
      exact e3
  · refine ⟨(2, 0, [], mem0 mem, 0), (2, 0, [], mem0 mem, 0), by rw [run_one, if_pos ha], by rw [run_one, if_pos ha], ⟨fun _ => ⟨rfl, rfl⟩, fun h => absurd h.symm ha⟩, same_self [] _ (by simp) (by omega), same_self _ _ (by rw [hm0]; omega) (by omega)⟩
theorem goals_ok (nm : ByteArray) (p r : Int) (l : Blocks) (hW : WF nm p r l) : Goals l := by
  have hS := hW.shape
  have hrow : ∀ i : Nat, (rd_LT32 l (i : Int)).length ≤ 200 := fun i => by
    by_cases h : i < l.length
    · exact (hS.len i h).2
    · have : rd_LT32 l (i : Int) = [] := by
        unfold rd_LT32
        rw [List.getD, List.getElem?_eq_none (by simpa using h)]
        rfl
      rw [this]; simp
  refine ⟨by have := hS.n32; omega, fun i => by have := hrow i; omega, fun i k hi hk => ?_⟩
  have hO := hW.ins i k hi hk
  have hn := hS.n32
  show ((at_ l i k).f0 = 12 → 0 ≤ (at_ l i k).f2 ∧ (at_ l i k).f2 ≤ 100000) ∧ ((at_ l i k).f0 = 13 → (0 ≤ (at_ l i k).f1 ∧ (at_ l i k).f1 ≤ 100000) ∧ 0 ≤ (at_ l i k).f3 ∧ (at_ l i k).f3 ≤ 100000)
  refine ⟨fun h => ?_, fun h => ?_⟩
  · have := hO.t (at_ l i k).f2 (by unfold tgtI; rw [if_pos h]; simp)
    omega
  · have h12 : ¬ (at_ l i k).f0 = 12 := by omega
    have t1 := hO.t (at_ l i k).f1 (by unfold tgtI; rw [if_neg h12, if_pos h]; simp)
    have t3 := hO.t (at_ l i k).f3 (by unfold tgtI; rw [if_neg h12, if_pos h]; simp)
    omega
end Go.Proofs.YtoilapjkgligfaaDoor.P
namespace Go.Proofs.YtoilapjkgligfaaDoor.P
set_option linter.unusedVariables false
open Go.RowKit Go.Proofs.YtoilapjkgligfaaDoorW.PrintWords Go.Proofs.YtoilapjkgligfaaDoorW.PrintLast Go.Proofs.YtoilapjkgligfaaDoorW.PrintMore

theorem small_mem {l : Blocks} (h : ∀ b ∈ l, ∀ x ∈ b, SmallI x) : SmallL l := fun i j hi hj => by
  have h1 : row l i ∈ l := by rw [row_eq l i hi]; exact List.getElem_mem hi
  have h2 : at_ l i j ∈ row l i := by rw [at_eq l i j hj]; exact List.getElem_mem hj
  exact h _ h1 _ h2
theorem mem_small {l : Blocks} (h : SmallL l) : ∀ b ∈ l, ∀ x ∈ b, SmallI x := fun b hb x hx => by
  obtain ⟨i, hi, rfl⟩ := List.getElem_of_mem hb
  obtain ⟨j, hj, rfl⟩ := List.getElem_of_mem hx
  have := h i j hi (by rw [row_eq l i hi]; exact hj)
  rw [at_eq l i j (by rw [row_eq l i hi]; exact hj)] at this
  have e : (row l i)[j]'(by rw [row_eq l i hi]; exact hj) = l[i][j] := by
    have := row_eq l i hi
    congr 1
  rwa [e] at this
theorem small_shift {x : Ins} (h : SmallI x) : SmallI (shiftI x) := by
  obtain ⟨h1, h2⟩ := h
  unfold shiftI
  split
  · exact ⟨h1, h2⟩
  · split
    · exact ⟨h1, h2⟩
    · exact ⟨h1, h2⟩
theorem small_made (value p r : Int) {l : Blocks} (h : SmallL l) : SmallL (madeL value p r l) := small_mem fun b hb x hx => by
  unfold madeL at hb
  rcases List.mem_cons.1 hb with rfl | hb
  · rcases List.mem_append.1 hx with hx | hx
    · unfold firstL at hx
      obtain ⟨i, _, rfl⟩ := List.mem_map.1 hx
      exact ⟨by show ByteArray.empty.size ≤ 2000000; decide, by show ([] : List Int).length ≤ 2000000; decide⟩
    · rw [List.mem_singleton.1 hx]
      exact ⟨by show ByteArray.empty.size ≤ 2000000; decide, by show ([] : List Int).length ≤ 2000000; decide⟩
  · obtain ⟨b', hb', rfl⟩ := List.mem_map.1 hb
    obtain ⟨x', hx', rfl⟩ := List.mem_map.1 hx
    exact small_shift (mem_small h b' hb' x' hx')
theorem live_only.whole (nm : ByteArray) (p r : Int) (l : Blocks) (A : Option Addr) (c : Nat) (value : Int) (args mem : List Int) (A2 : Option Addr) (c2 : Nat) (A3 : Option Addr) (c3 : Nat) (fuel : Int) (w : World) (hGS : GS w) (hr : Kd.C (Kd.slice 32 k32) w A l.length l) (hc : l.length ≤ c)
    (hn : nm.size ≤ 2000000) (hs : SmallL l) (hv0 : 0 ≤ value) (hv1 : value < 65536) (hfu0 : 0 ≤ fuel) (hfu1 : fuel < 65536) (hA2 : Kd.C (Kd.int .i64) w A2 args.length args) (hA3 : Kd.C (Kd.int .i64) w A3 mem.length mem) (hc3 : mem.length ≤ c3) :
    Calls Tryd.prog 3 #[.agg #[.string nm, .int .i64 p, .int .i64 r, .slice A l.length c], .int .u16 value, .slice A2 args.length c2, .slice A3 mem.length c3, .int .u16 fuel] w fun e w' => e = .returned (.bool true) ∧ Below w.heap.size w w' := by
  obtain ⟨k, hk1, hk2⟩ : ∃ k : Nat, l.length * 18446744073709551616 * 100 + 20000200 < k ∧ 30000000 ≤ k := ⟨l.length * 18446744073709551616 * 100 + 30000000, Nat.add_lt_add_left (by decide) _, Nat.le_add_left _ _⟩
  have early : live_only.skip k nm p r l args mem = some true → Calls Tryd.prog 3 #[.agg #[.string nm, .int .i64 p, .int .i64 r, .slice A l.length c], .int .u16 value, .slice A2 args.length c2, .slice A3 mem.length c3, .int .u16 fuel] w fun e w' => e = .returned (.bool true) ∧ Below w.heap.size w w' :=
    fun h => live_only.early k nm p r l A c value args mem A2 c2 A3 c3 fuel w hGS hr hc h (live_check_nil k)
  unfold live_only.skip at early
  have k1 : 10000000 ≤ k := Nat.le_trans (by decide) hk2
  have k2 : 20000000 ≤ k := Nat.le_trans (by decide) hk2
  obtain ⟨b, hb, hp⟩ := heavy_ok nm p r l k hn hs k1
  rw [hb, Option.bind_some] at early
  cases b with
  | true => exact early (if_pos rfl)
  | false =>
    rw [if_neg Bool.false_ne_true] at early
    obtain ⟨h12, hW, hr40⟩ := hp rfl
    by_cases ha : 10 < args.length
    · exact early (if_pos ha)
    rw [if_neg ha] at early
    by_cases hm : 300 < mem.length
    · exact early (if_pos hm)
    rw [if_neg hm] at early
    obtain ⟨e, he, hq⟩ := check11_ok nm p r l hW hn hs k k2
    rw [he, Option.bind_some] at early
    by_cases he0 : e = 0
    · rw [if_neg (fun h => h he0)] at early
      obtain ⟨b2, hb2, hq2⟩ := calls_ok nm p r l hW k (Nat.le_trans (by decide) hk2)
      cases b2 with
      | true => exact early hb2
      | false =>
        clear early
        obtain ⟨R, hP, hR0⟩ := hq he0
        subst he0
        obtain ⟨e9, he9, _⟩ := check07_ok nm p r (madeL value p r l) k hn (small_made value p r hs) k1
        have hS := hW.shape
        have p0 := hS.p0
        have pr := hS.pr
        exact live_only.rest k nm p r l A c value args mem A2 c2 A3 c3 fuel w hGS hr hc p0 pr (by omega) hv0 hv1 (goals_ok nm p r l hW) hfu0 hfu1 hA2 hA3 hc3 e9 he9
          (fun _ => live_runs nm p r value l hW (hq2 rfl) R hP hR0 hv0 args mem (fuel % 1000) (by omega) (by omega) k k1) hb (by omega) (by omega) he hb2 (live_check_ok nm p r l hW R hP hR0 k hk1)
    · exact early (if_pos he0)
end Go.Proofs.YtoilapjkgligfaaDoor.P
namespace Go.Proofs.YtoilapjkgligfaaDoor.P
set_option linter.unusedVariables false
open Go.ChangeShapes Go.WideShapes Go.ChangeAt Go.RowKit Go.Proofs.YtoilapjkgligfaaDoorW.PrintWords Go.Proofs.YtoilapjkgligfaaDoorW.PrintLast Go.Proofs.YtoilapjkgligfaaDoorW.PrintMore

theorem gShapes : Tryd.prog.globalNamed "cubby/ir.shapes" = some 0 := by kernel_rfl
theorem gShapesType : (Tryd.prog.globals[0]?).map (·.type) = some 176 := by kernel_rfl
theorem cellsShapes : Tryd.prog.cellsOf 176 = 15 := by kernel_rfl
theorem cellsString : Tryd.prog.cellsOf 9 = 1 := by kernel_rfl
theorem cellsIns : Tryd.prog.cellsOf 32 = 6 := by kernel_rfl
theorem cellsFunc : Tryd.prog.cellsOf 24 = 4 := by kernel_rfl
theorem cellsInt : Tryd.prog.cellsOf 3 = 1 := by kernel_rfl
theorem cells30 : Tryd.prog.cellsOf 30 = 1 := by kernel_rfl
theorem cells26 : Tryd.prog.cellsOf 26 = 1 := by kernel_rfl
theorem cells_of_strs {P : Program} {w : World} {fuel : Nat} {t e n : Nat} {cs : List Value} {zs : List (List UInt8)} {p : List MemPlace} (ht : P.underlying t = some (.array n e)) (he : P.underlying e = some .string) (hce : P.cellsOf e = 1) (hct : P.cellsOf t = n)
    (h : DataW.trod (fun _ => ()) P w 0 (fun _ => true) false fuel t cs = some ((DataW.agg (zs.map fun z => DataW.lit (Lit.string z)) : DataW Unit), p)) : ∀ (i : Nat) (z : List UInt8), zs[i]? = some z → ∃ s : ByteArray, cs[i]? = some (Value.string s) ∧ s.data.toList = z := by
  cases fuel with
  | zero => simp [DataW.trod] at h
  | succ fuel =>
    simp only [DataW.trod, ht, hce, hct, Nat.mul_one] at h
    split at h
    · obtain ⟨xs, hm, hx⟩ := Option.map_eq_some_iff.1 h
      have hxs : xs.map (·.1) = zs.map fun z => (DataW.lit (Lit.string z) : DataW Unit) := by
        have := congrArg Prod.fst hx
        simpa using this
      intro i z hz
      have hxl : xs.length = n := by simpa using Lib.mapM_length hm
      have hzl : zs.length = n := by
        have := congrArg List.length hxs
        simp at this
        omega
      have hi : i < n := by have := (List.getElem?_eq_some_iff.1 hz).1; omega
      obtain ⟨b, hb, hf⟩ := Lib.mapM_at hm i i (by simp [hi])
      obtain ⟨s, hc, rfl, _⟩ := DataW.trod_string he hf
      refine ⟨s, ?_, ?_⟩
      · have := congrArg (·[0]?) hc
        simpa [List.getElem?_take, List.getElem?_drop] using this
      · have h2 : (xs.map (·.1))[i]? = some (DataW.lit (Lit.string s.data.toList) : DataW Unit) := by simp [hb]
        rw [hxs] at h2
        simp only [List.getElem?_map, Option.map_eq_some_iff, DataW.lit.injEq, Lit.string.injEq] at h2
        obtain ⟨z', hz', e⟩ := h2
        rw [hz] at hz'
        rw [← e, Option.some.inj hz']
    · cases h
theorem gs_of_laid {W : World} (h : laidMetH Tryd.prog Rows.liveOnlyUptoRow.laid W) : GS W := by
  have h' : laidMet Tryd.prog Rows.liveOnlyUptoRow.laid W := h
  obtain ⟨ps, hl, _⟩ := h'
  obtain ⟨_, _, _, _, _, _, _, _, _, _, hl, _⟩ := hl
  obtain ⟨g', t', cs, fuel, p, q, hg', ht', hvar, hd, _, _⟩ := hl
  obtain rfl := Option.some.inj (gShapes.symm.trans hg')
  obtain rfl := Option.some.inj (gShapesType.symm.trans ht')
  have hz := cells_of_strs (zs := shapesL.map (·.data.toList)) Tryd.underlying176 Tryd.underlying9 cellsString cellsShapes hd
  refine ⟨fun i hi => ?_⟩
  have hi' : i < shapesL.length := hi
  obtain ⟨s, hs, e⟩ := hz i (shapesL[i].data.toList) (by rw [List.getElem?_map, List.getElem?_eq_getElem hi']; rfl)
  have h1 := World.var?_cell gShapes hvar i
  rw [h1]
  have e2 : s = shapesL[i] := bytes_inj e
  rw [Array.getElem?_toList] at hs
  rw [hs, e2, List.getD, List.getElem?_eq_getElem hi']
  rfl
section
variable {H : Type} {enc : TypeId × Value → H} {w : World}
theorem bulk_part {d : DataW H} {l : List (DataW H)} (h : d ∈ l) : Rows.uptoBulk d ≤ Rows.uptoBulkAll l := by
  induction l with
  | nil => cases h
  | cons x r ih =>
    simp only [Rows.uptoBulkAll]
    rcases List.mem_cons.1 h with e | e
    · subst e; omega
    · have := ih e; omega
theorem bulk_one (d : DataW H) : 1 ≤ Rows.uptoBulk d := by
  cases d with
  | lit l => cases l <;> simp [Rows.uptoBulk]
  | nil => simp [Rows.uptoBulk]
  | ptr d => simp [Rows.uptoBulk]
  | slice elems spare => simp [Rows.uptoBulk]
  | agg parts => simp [Rows.uptoBulk]
  | iface t d => simp [Rows.uptoBulk]
  | map entries => simp [Rows.uptoBulk]
  | held h => simp [Rows.uptoBulk]
theorem bulk_length (l : List (DataW H)) : l.length ≤ Rows.uptoBulkAll l := by
  induction l with
  | nil => simp [Rows.uptoBulkAll]
  | cons x r ih => have := bulk_one x; simp only [Rows.uptoBulkAll, List.length_cons]; omega
theorem open_sliceK {α : Type} [Inhabited α] {d : Kd α} {Q : α → Prop} {N t e fuel : Nat} {cs : List Value} {x : DataW H × List MemPlace} (ht : Tryd.prog.underlying t = some (.slice e)) (hsz : Tryd.prog.cellsOf e = d.sz)
    (he : ∀ (fuel : Nat) (cs : List Value) (x : DataW H × List MemPlace), DataW.trod enc Tryd.prog w 0 (fun _ => true) true fuel e cs = some x → Rows.uptoBulk x.1 ≤ N → ∃ a, d.K w a cs ∧ Q a)
    (h : DataW.trod enc Tryd.prog w 0 (fun _ => true) true fuel t cs = some x) (hN : Rows.uptoBulk x.1 ≤ N) : ∃ l : List α, (Kd.slice e d).K w l cs ∧ l.length ≤ N ∧ ∀ a ∈ l, Q a := by
  rcases Deep.open_slice ht h with ⟨rfl, rfl⟩ | ⟨a, len, cap, m, n, D, Pl, rfl, hb, hl, hm, hmm, rfl, hx⟩
  · exact ⟨[], ⟨none, 0, rfl, Nat.le_refl _, rfl, by simp, fun h => by simp at h⟩, Nat.zero_le _, fun a ha => by cases ha⟩
  · rw [if_pos rfl] at hmm
    subst hmm
    simp only [Rows.uptoBulk] at hN
    have hlen := bulk_length ((List.range len).map D)
    rw [List.length_map, List.length_range] at hlen
    obtain ⟨f, hf⟩ := Deep.choose_lt (α := α) (n := len) (p := fun i v => ∃ cs', w.cells? 0 (a.add (i * Tryd.prog.cellsOf e)) (Tryd.prog.cellsOf e) = some cs' ∧ d.K w v cs' ∧ Q v) (fun i hi => by
      obtain ⟨cs', h1, h2⟩ := hx i (by omega)
      have hbp : Rows.uptoBulk (D i) ≤ Rows.uptoBulkAll ((List.range len).map D) := bulk_part (List.mem_map.2 ⟨i, List.mem_range.2 hi, rfl⟩)
      obtain ⟨v, hv, hq⟩ := he n cs' _ h2 (by show Rows.uptoBulk (D i) ≤ N; omega)
      exact ⟨v, cs', h1, hv, hq⟩)
    refine ⟨(List.range len).map f, ⟨some a, m, by simp, by simpa using hl, ?_⟩, by simp; omega, fun v hv => ?_⟩
    · refine ⟨rfl, ?_, fun _ => ⟨a, rfl, fun j p hj => ?_⟩⟩
      · unfold maxLen at hm
        simp
        omega
      · rw [List.getElem?_map] at hj
        by_cases hjl : j < len
        · rw [List.getElem?_range hjl] at hj
          obtain rfl := Option.some.inj hj
          obtain ⟨cs', h1, h2, _⟩ := hf j hjl
          obtain ⟨_, h3, h4⟩ := World.cells?_some h1
          refine ⟨cs', h3.trans hsz, h2, fun i u hu => ?_⟩
          have hi : i < cs'.length := (List.getElem?_eq_some_iff.1 hu).1
          rw [← hsz, ← Deep.add_add, h4 i (by omega), hu]
        · rw [List.getElem?_eq_none (by simpa using hjl)] at hj
          cases hj
    · obtain ⟨i, hi, rfl⟩ := List.mem_map.1 hv
      obtain ⟨_, _, _, hq⟩ := hf i (List.mem_range.1 hi)
      exact hq
theorem open_intK {t : Nat} {k : IntKind} {N : Nat} (ht : Tryd.prog.underlying t = some (.int k)) (fuel : Nat) (cs : List Value) (x : DataW H × List MemPlace) (h : DataW.trod enc Tryd.prog w 0 (fun _ => true) true fuel t cs = some x) (hN : Rows.uptoBulk x.1 ≤ N) : ∃ a, (Kd.int k).K w a cs ∧ True := by
  obtain ⟨n, rfl, _, _⟩ := DataW.trod_int ht h
  exact ⟨n, rfl, trivial⟩
set_option maxRecDepth 100000 in
theorem open_ins (fuel : Nat) (cs : List Value) (x : DataW H × List MemPlace) (h : DataW.trod enc Tryd.prog w 0 (fun _ => true) true fuel 32 cs = some x) (hN : Rows.uptoBulk x.1 ≤ 2000000) : ∃ a, k32.K w a cs ∧ SmallI a := by
  obtain ⟨xs, n, rfl, rfl, hl, hx, hf⟩ := DataW.trod_struct Tryd.underlying32 h
  rw [cellsIns] at hl
  match cs, hl with
  | [c0, c1, c2, c3, c4, c5], _ =>
    have part : ∀ (i : Nat) (y : DataW H × List MemPlace), xs[i]? = some y → Rows.uptoBulk y.1 ≤ 2000000 := fun i y hy => by
      have h1 : y.1 ∈ xs.map (·.1) := List.mem_map.2 ⟨y, List.mem_of_getElem? hy, rfl⟩
      have h2 := bulk_part h1
      simp only [Rows.uptoBulk] at hN
      omega
    have get : ∀ i : Nat, i < 6 → ∃ y, xs[i]? = some y := fun i hi => ⟨xs[i]'(by rw [hx]; exact hi), List.getElem?_eq_getElem _⟩
    obtain ⟨y0, e0⟩ := get 0 (by decide)
    obtain ⟨y1, e1⟩ := get 1 (by decide)
    obtain ⟨y2, e2⟩ := get 2 (by decide)
    obtain ⟨y3, e3⟩ := get 3 (by decide)
    obtain ⟨y4, e4⟩ := get 4 (by decide)
    obtain ⟨y5, e5⟩ := get 5 (by decide)
    have k0 : DataW.trod enc Tryd.prog w 0 (fun _ => true) true n 3 (([c0, c1, c2, c3, c4, c5].drop 0).take (Tryd.prog.cellsOf 3)) = some y0 := (hf 0 _ rfl).trans e0
    rw [cellsInt] at k0
    have f0 : DataW.trod enc Tryd.prog w 0 (fun _ => true) true n 3 [c0] = some y0 := k0
    have k1 : DataW.trod enc Tryd.prog w 0 (fun _ => true) true n 3 (([c0, c1, c2, c3, c4, c5].drop 1).take (Tryd.prog.cellsOf 3)) = some y1 := (hf 1 _ rfl).trans e1
    rw [cellsInt] at k1
    have f1 : DataW.trod enc Tryd.prog w 0 (fun _ => true) true n 3 [c1] = some y1 := k1
    have k2 : DataW.trod enc Tryd.prog w 0 (fun _ => true) true n 3 (([c0, c1, c2, c3, c4, c5].drop 2).take (Tryd.prog.cellsOf 3)) = some y2 := (hf 2 _ rfl).trans e2
    rw [cellsInt] at k2
    have f2 : DataW.trod enc Tryd.prog w 0 (fun _ => true) true n 3 [c2] = some y2 := k2
    have k3 : DataW.trod enc Tryd.prog w 0 (fun _ => true) true n 3 (([c0, c1, c2, c3, c4, c5].drop 3).take (Tryd.prog.cellsOf 3)) = some y3 := (hf 3 _ rfl).trans e3
    rw [cellsInt] at k3
    have f3 : DataW.trod enc Tryd.prog w 0 (fun _ => true) true n 3 [c3] = some y3 := k3
    have k4 : DataW.trod enc Tryd.prog w 0 (fun _ => true) true n 9 (([c0, c1, c2, c3, c4, c5].drop 4).take (Tryd.prog.cellsOf 9)) = some y4 := (hf 4 _ rfl).trans e4
    rw [cellsString] at k4
    have f4 : DataW.trod enc Tryd.prog w 0 (fun _ => true) true n 9 [c4] = some y4 := k4
    have k5 : DataW.trod enc Tryd.prog w 0 (fun _ => true) true n 26 (([c0, c1, c2, c3, c4, c5].drop 5).take (Tryd.prog.cellsOf 26)) = some y5 := (hf 5 _ rfl).trans e5
    rw [cells26] at k5
    have f5 : DataW.trod enc Tryd.prog w 0 (fun _ => true) true n 26 [c5] = some y5 := k5
    have b4 := part 4 _ e4
    have b5 := part 5 _ e5
    obtain ⟨n0, g0, _, _⟩ := DataW.trod_int Tryd.underlying3 f0
    obtain ⟨n1, g1, _, _⟩ := DataW.trod_int Tryd.underlying3 f1
    obtain ⟨n2, g2, _, _⟩ := DataW.trod_int Tryd.underlying3 f2
    obtain ⟨n3, g3, _, _⟩ := DataW.trod_int Tryd.underlying3 f3
    obtain ⟨s4, g4, x4, _⟩ := DataW.trod_string Tryd.underlying9 f4
    obtain ⟨l5, g5, h5, _⟩ := open_sliceK (d := Kd.int .i64) (Q := fun _ => True) (N := 2000000) Tryd.underlying26 cellsInt (open_intK Tryd.underlying3) f5 b5
    obtain ⟨A5, c5', g5, l5', hC⟩ := g5
    obtain rfl : c0 = .int .i64 n0 := by simpa using g0
    obtain rfl : c1 = .int .i64 n1 := by simpa using g1
    obtain rfl : c2 = .int .i64 n2 := by simpa using g2
    obtain rfl : c3 = .int .i64 n3 := by simpa using g3
    obtain rfl : c4 = .string s4 := by simpa using g4
    obtain rfl : c5 = .slice A5 l5.length c5' := by simpa using g5
    refine ⟨⟨n0, n1, n2, n3, s4, l5⟩, k32_mk w ⟨n0, n1, n2, n3, s4, l5⟩ l5' hC, ?_, h5⟩
    rw [x4] at b4
    have b4' : Rows.uptoBulk (DataW.lit (H := H) (Lit.string s4.data.toList)) ≤ 2000000 := b4
    rw [show Rows.uptoBulk (DataW.lit (H := H) (Lit.string s4.data.toList)) = s4.data.toList.length + 1 by simp [Rows.uptoBulk]] at b4'
    have : s4.data.toList.length = s4.size := by rw [Array.length_toList]; rfl
    show s4.size ≤ 2000000
    omega
end
instance : Inhabited Ins := ⟨z32⟩
end Go.Proofs.YtoilapjkgligfaaDoor.P
