/-
  The law LiveOnly (cubbylaw11) answers true at every input, and leaves its arguments as they were. Conditions: the arguments' bulk is at most 1048576 (the statement's second form); the three listed package variables hold what the program's text lays (the card ties them to it).
-/
import Derived.Test.YtoilapjkgligfaaDoorKP
import Derived.Test.YtoilapjkgligfaaDoorKa12
import Derived.Test.YtoilapjkgligfaaDoorCards
import Derived.Test.YtoilapjkgligfaaDoorTie
import Derived.Deep.DeepHandedRow
import Derived.ShutString
namespace Go.Proofs.YtoilapjkgligfaaDoor.liveRow
open Go.ChangeShapes Go.WideShapes Go.ChangeAt Go.RowKit Go.Proofs.YtoilapjkgligfaaDoorW.PrintWords Go.Proofs.YtoilapjkgligfaaDoor.P
open Go.ChangeMaps (open_string shut_string)
set_option linter.unusedVariables false

theorem own : ownKnob Tryd.prog.godebug = none := by kernel_rfl
theorem laidOut : laidOutB Tryd.prog = true := by kernel_rfl
set_option maxRecDepth 100000 in
theorem contract (H : Type) (enc : TypeId × Value → H) (W : World) (base : Nat) (args : Array Value) (ds gs : List (DataW H)) (before : List MemPlace)
    (hval0 : ∀ (j : Nat) t v, Tryd.f3.params[j]? = some t → args[j]? = some v → Value.okWide Tryd.prog W .any base t v)
    (hW : DataW.Whole enc Tryd.prog Tryd.f3.params.toList Rows.liveOnlySpec.vars false W args.toList ds gs before) (hk : Rows.uptoSmall H (ds ++ gs) = true) (hL : laidMetH Tryd.prog Rows.liveOnlyUptoRow.laid W) :
    Calls Tryd.prog 3 args W fun e W' => ∃ v, e = .returned v ∧ Rows.liveOnlySpec.post enc Tryd.prog Tryd.f3 false true false false W args v W' := by
  have hval : ∀ (j : Nat) t v, Tryd.f3.params[j]? = some t → args[j]? = some v → Value.okWide Tryd.prog W .any base t v := hval0
  have hW' := hW
  obtain ⟨p, q, hA0, hV, rfl, hfz, hnd⟩ := hW
  have hA : DataW.TrodAll enc Tryd.prog W 0 (fun _ => true) true Tryd.f3.params.toList args.toList ds p := hA0
  rw [Tryd.params3] at hA hval
  obtain ⟨v0, vs0, d0, ds0, p0, q0, hargs, rfl, rfl, h0, r0⟩ := trodAll_cons hA
  obtain ⟨v1, vs1, d1, ds1, p1, q1, rfl, rfl, rfl, h1, r1⟩ := trodAll_cons r0
  obtain ⟨v2, vs2, d2, ds2, p2, q2, rfl, rfl, rfl, h2, r2⟩ := trodAll_cons r1
  obtain ⟨v3, vs3, d3, ds3, p3, q3, rfl, rfl, rfl, h3, r3⟩ := trodAll_cons r2
  obtain ⟨v4, vs4, d4, ds4, p4, q4, rfl, rfl, rfl, h4, r4⟩ := trodAll_cons r3
  obtain ⟨rfl, rfl, rfl⟩ := trodAll_nil r4
  obtain rfl : args = #[v0, v1, v2, v3, v4] := by cases args; simp_all
  obtain ⟨rfl, rfl⟩ := trodVars_none hV
  have hbulk : Rows.uptoBulkAll [d0, d1, d2, d3, d4] ≤ 1048576 := by
    have h := of_decide_eq_true hk
    rw [List.append_nil] at h
    exact h
  have hb0 : Rows.uptoBulk d0 ≤ 1048576 := Nat.le_trans (bulk_part (by simp)) hbulk
  have hb2 : Rows.uptoBulk d2 ≤ 1048576 := Nat.le_trans (bulk_part (by simp)) hbulk
  have hb3 : Rows.uptoBulk d3 ≤ 1048576 := Nat.le_trans (bulk_part (by simp)) hbulk
  have lt0 : ∀ x ∈ p0, x.block < W.heap.size := by obtain ⟨m, hm⟩ := h0; exact DataW.trod_lt m _ _ _ hm
  have lt2 : ∀ x ∈ p2, x.block < W.heap.size := by obtain ⟨m, hm⟩ := h2; exact DataW.trod_lt m _ _ _ hm
  have lt3 : ∀ x ∈ p3, x.block < W.heap.size := by obtain ⟨m, hm⟩ := h3; exact DataW.trod_lt m _ _ _ hm
  have k0 := h0
  have k2 := h2
  have k3 := h3
  obtain ⟨c0, c1, c2, c3, y0, y1, y2, y3, n, rfl, hd0, _, h00, h01, h02, h03⟩ := Joins.open_agg4 Tryd.underlying24 (by kernel_rfl) cellsFunc (hval 0 24 v0 rfl rfl) h0
  have part0 : ∀ y ∈ [y0.1, y1.1, y2.1, y3.1], Rows.uptoBulk y ≤ 1048576 := fun y hy => by
    have h := bulk_part hy
    rw [hd0] at hb0
    simp only [Rows.uptoBulk] at hb0
    omega
  obtain ⟨nm, g0, x0, _⟩ := DataW.trod_string Tryd.underlying9 h00
  obtain ⟨pp, g1, _, _⟩ := DataW.trod_int Tryd.underlying3 h01
  obtain ⟨rr, g2, _, _⟩ := DataW.trod_int Tryd.underlying3 h02
  obtain rfl : c0 = .string nm := by simpa using g0
  obtain rfl : c1 = .int .i64 pp := by simpa using g1
  obtain rfl : c2 = .int .i64 rr := by simpa using g2
  have hname : nm.size ≤ 2000000 := by
    have h := part0 y0.1 (by simp)
    rw [x0] at h
    have h' : Rows.uptoBulk (DataW.lit (H := H) (Lit.string nm.data.toList)) ≤ 1048576 := h
    rw [show Rows.uptoBulk (DataW.lit (H := H) (Lit.string nm.data.toList)) = nm.data.toList.length + 1 by simp [Rows.uptoBulk]] at h'
    have : nm.data.toList.length = nm.size := by rw [Array.length_toList]; rfl
    omega
  obtain ⟨l, hl, _, hsm⟩ := open_sliceK (d := Kd.slice 32 k32) (Q := fun b => ∀ x ∈ b, SmallI x) (N := 2000000) Tryd.underlying22 cells30 (fun fuel cs x h hN => by
    obtain ⟨b, hb, _, hq⟩ := open_sliceK (d := k32) (Q := SmallI) (N := 2000000) Tryd.underlying30 cellsIns open_ins h hN
    exact ⟨b, hb, hq⟩) h03 (by have := part0 y3.1 (by simp); omega)
  obtain ⟨A, c, g3, hlc, hC⟩ := hl
  obtain rfl : c3 = .slice A l.length c := by simpa using g3
  obtain ⟨value, rfl, hd1, hp1, w1⟩ := open_int Tryd.underlying25 (hval 1 25 v1 rfl rfl) h1
  obtain ⟨a2, len2, cap2, rfl⟩ := okWide_slice Tryd.underlying26 (hval 2 26 v2 rfl rfl)
  obtain ⟨a3, len3, cap3, rfl⟩ := okWide_slice Tryd.underlying26 (hval 3 26 v3 rfl rfl)
  obtain ⟨fuel, rfl, hd4, hp4, w4⟩ := open_int Tryd.underlying25 (hval 4 25 v4 rfl rfl) h4
  obtain ⟨f2, e2⟩ := h2
  obtain ⟨f3, e3⟩ := h3
  obtain ⟨l2, ⟨A2, cc2, g4, _, hC2⟩, _, _⟩ := open_sliceK (d := Kd.int .i64) (Q := fun _ => True) (N := 2000000) Tryd.underlying26 cellsInt (open_intK Tryd.underlying3) e2 (by show Rows.uptoBulk d2 ≤ 2000000; omega)
  obtain ⟨l3, ⟨A3, cc3, g5, hlc3, hC3⟩, _, _⟩ := open_sliceK (d := Kd.int .i64) (Q := fun _ => True) (N := 2000000) Tryd.underlying26 cellsInt (open_intK Tryd.underlying3) e3 (by show Rows.uptoBulk d3 ≤ 2000000; omega)
  obtain ⟨rfl, rfl, rfl⟩ : a2 = A2 ∧ len2 = l2.length ∧ cap2 = cc2 := by simpa [Value.cells] using g4
  obtain ⟨rfl, rfl, rfl⟩ : a3 = A3 ∧ len3 = l3.length ∧ cap3 = cc3 := by simpa [Value.cells] using g5
  have hu : ∀ n : Int, (Lit.int .u16 n).wf = true → 0 ≤ n ∧ n < 65536 := fun n h => by
    have h2 : (decide (IntKind.u16.min ≤ n) && decide (n ≤ IntKind.u16.max)) = true := h
    rw [Bool.and_eq_true, decide_eq_true_iff, decide_eq_true_iff, show IntKind.u16.min = 0 from rfl, show IntKind.u16.max = 65535 from rfl] at h2
    omega
  clear hA0 hval0
  refine (live_only.whole nm pp rr l A c value l2 l3 a2 cap2 a3 cap3 fuel W (gs_of_laid hL) hC hlc hname (small_mem hsm) (hu value w1).1 (hu value w1).2 (hu fuel w4).1 (hu fuel w4).2 hC2 hC3 hlc3).mono fun e W' ⟨he, bel⟩ => ?_
  subst he
  subst hd1 hd4 hp1 hp4
  exact ⟨_, rfl, _, _, _, [], _, [], hW', trodAll_mk1 (shut_bool Tryd.underlying4 _), (trodAll_cons_mk (Below.trod laidOut (by kernel_rfl) (of_decide_eq_true (by kernel_rfl)) k0 bel lt0) (trodAll_cons_mk (shut_int Tryd.underlying25 w1) (trodAll_cons_mk (Below.trod laidOut (by kernel_rfl) (of_decide_eq_true (by kernel_rfl)) k2 bel lt2) (trodAll_cons_mk (Below.trod laidOut (by kernel_rfl) (of_decide_eq_true (by kernel_rfl)) k3 bel lt3) (trodAll_cons_mk (shut_int Tryd.underlying25 w4) trodAll_mk0))))), rfl, bel.frame _, fun h => by cases h⟩

def wArgs : Array Value := #[.agg #[.string ByteArray.empty, .int .i64 0, .int .i64 0, .slice none 0 0], .int .u16 0, .slice none 0 0, .slice none 0 0, .int .u16 0]
def cellsShapes : Array Value := (shapesL.map Value.string).toArray
def cellsFirst : Array Value := (Go.Pinned.utf8FirstZ.map fun (n : Nat) => Value.int .u8 n).toArray
def cellsAccept : Array Value := #[.int .u8 128, .int .u8 191, .int .u8 160, .int .u8 191, .int .u8 128, .int .u8 159, .int .u8 144, .int .u8 191, .int .u8 128, .int .u8 143, .int .u8 0, .int .u8 0, .int .u8 0, .int .u8 0, .int .u8 0, .int .u8 0, .int .u8 0, .int .u8 0, .int .u8 0, .int .u8 0, .int .u8 0, .int .u8 0, .int .u8 0, .int .u8 0, .int .u8 0, .int .u8 0, .int .u8 0, .int .u8 0, .int .u8 0, .int .u8 0, .int .u8 0, .int .u8 0]
def lay (cs : Array Value) : Obj → Obj
  | .cells _ t frozen => .cells cs t frozen
  | o => o
noncomputable def laidWorld (os : Os) : World :=
  { World.holding Tryd.prog os ⟨#[], #[], []⟩ with heap := (((World.holding Tryd.prog os ⟨#[], #[], []⟩).heap.modify 0 (lay cellsShapes)).modify 4 (lay cellsFirst)).modify 5 (lay cellsAccept) }
set_option maxRecDepth 100000
theorem laid_met (os : Os) : laidMet Tryd.prog Rows.liveOnlyUptoRow.laid ((laidWorld os).forCall (fun _ _ => 0) ⟨#[], wArgs, []⟩).memory :=
  laidMet_of_run' 8 (by kernel_rfl) (by kernel_rfl)
theorem reads (os : Os) {H : Type} (enc : TypeId × Value → H) : ∃ places, DataW.whole enc Tryd.prog ((laidWorld os).forCall (fun _ _ => 0) ⟨#[], wArgs, []⟩).memory Tryd.f3.params.toList Rows.liveOnlySpec.vars false wArgs.toList 8 = some ([.agg [.lit (.string []), .lit (.int .i64 0), .lit (.int .i64 0), .nil], .lit (.int .u16 0), .nil, .nil, .lit (.int .u16 0)], [], places) :=
  ⟨[], by kernel_rfl⟩
theorem liftedUpto (os : Os) (started : os.Started) (H : Type) (enc : TypeId × Value → H) (F : Stop.Interp) :
    ReturnsInHanded {} Tryd.checked os 3 .any ((Rows.OpenSpec.upto Rows.liveOnlySpec).preRow enc Tryd.prog Tryd.f3 Rows.liveOnlyUptoRow.domain false Rows.liveOnlyUptoRow.laid) (((Rows.OpenSpec.upto Rows.liveOnlySpec).at F).post enc Tryd.prog Tryd.f3 false true false false) := by
  obtain ⟨places, hx⟩ := reads os enc
  refine returnsInHanded_of_row (C := Tryd.checked) (s := Rows.OpenSpec.upto Rows.liveOnlySpec) own started (by kernel_rfl) Tryd.func3
    (witness_row_at (enc := enc) (C := Tryd.checked) false (laidWorld os) wArgs rfl (by kernel_rfl) (by kernel_rfl) (by kernel_rfl)
      (OpenSpec.preRow_of_cond 8 hx (by kernel_rfl) (fun k hk => by cases hk; kernel_rfl) (by kernel_rfl) (laid_met os))) ?_
  intro W base args ds gs before hval hW _ hcond _ hL _ _
  exact contract H enc W base args ds gs before hval hW (hcond _ rfl) hL
theorem saidUpto : Rows.LiveOnlyUptoSaid :=
  OpenClaim.holds_of_cond 3 Tryd.f3 rfl rfl rfl rfl rfl rfl rfl ⟨rfl, rfl, rfl, rfl, rfl⟩ rfl rfl rfl rfl rfl (by kernel_rfl) Tryd.func3 (by kernel_rfl)
    (of_decide_eq_true (by kernel_rfl)) (by unfold Func.isWrapper; first | (rw [if_pos (by decide +kernel)]; kernel_rfl) | (rw [if_neg (by decide +kernel)]; exact ⟨rfl, rfl⟩))
    (fun os started H enc _ F => by rw [OpenClaim.pre_eq_preRow]; exact liftedUpto os started H enc F)
theorem plain (f : FuncId) (fn : Func) (hf : Tryd.pinned.checked.prog.funcNamed "cubby/cubbylaw11.LiveOnly" = some f) (hfn : Tryd.pinned.checked.prog.funcs[f]? = some fn) :
    true = Tryd.pinned.checked.prog.looks [] ∧ ∀ (j : Nat) t, fn.params[j]? = some t → Tryd.pinned.checked.prog.wantsStandIn t = false := by
  obtain rfl : f = 3 := Option.some.inj ((show Tryd.prog.funcNamed "cubby/cubbylaw11.LiveOnly" = some 3 by kernel_rfl).symm.trans hf) |>.symm
  obtain rfl : fn = Tryd.f3 := (Option.some.inj (Tryd.func3.symm.trans hfn)).symm
  refine ⟨by kernel_rfl, fun j t ht => ?_⟩
  rw [Tryd.params3] at ht
  have hm := Array.mem_of_getElem? ht
  simp at hm
  rcases hm with rfl | rfl | rfl | rfl
  · exact (show Tryd.prog.wantsStandIn 24 = false by kernel_rfl)
  · exact (show Tryd.prog.wantsStandIn 25 = false by kernel_rfl)
  · exact (show Tryd.prog.wantsStandIn 26 = false by kernel_rfl)
  · exact (show Tryd.prog.wantsStandIn 25 = false by kernel_rfl)
theorem cardUpto : Rows.LiveOnlyUptoCardSaid :=
  Claim7.holds_tied_plain_at .later [] _ _ _ _ saidUpto (fun _ h => by cases h) (by kernel_rfl) (fun _ h => by cases h) liveOnlyUpto_row_tie rfl ⟨rfl, rfl⟩ (by kernel_rfl) rfl plain (by kernel_rfl)
end Go.Proofs.YtoilapjkgligfaaDoor.liveRow
namespace Go.Proofs.YtoilapjkgligfaaDoor
theorem liveOnlyUpto_holds : Rows.LiveOnlyUptoCardSaid := liveRow.cardUpto
end Go.Proofs.YtoilapjkgligfaaDoor
#print axioms Go.Proofs.YtoilapjkgligfaaDoor.liveOnlyUpto_holds
