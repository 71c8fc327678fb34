import Derived.Test.YtoilapjkgligfaaDoorKP
import Derived.Test.YtoilapjkgligfaaDoorKa0
import Derived.Test.YtoilapjkgligfaaDoorKGCloneLay
import Derived.Defers
import Derived.Recover
import Derived.Tactics2
import Derived.Laws.Pointers
import Derived.BigRegion
import Derived.Deep.RegionHeld3
import Derived.WalkLawsBesides
namespace Go.Proofs.YtoilapjkgligfaaDoor.P
set_option linter.unusedVariables false
open Go.RowKit Go.Proofs.YtoilapjkgligfaaDoorW.PrintWords Go.Proofs.YtoilapjkgligfaaDoorW.PrintLast Go.Proofs.YtoilapjkgligfaaDoorW.PrintMore

theorem own_R {w : World} {base : Nat} {v : Value} {l : List Int} (h : w.ownsRow base 3 1 v l.length (l.map (Value.int .i64))) : Kd.R (Kd.int .i64) 3 w base (fun _ => True) v l := by
  refine ⟨fun _ _ => trivial, _, h, by simp [Kd.int, Kd.scalar], fun j p hj => ?_⟩
  show _ = [Value.int .i64 p]
  have hj' : (l.map (Value.int .i64))[j]? = some (.int .i64 p) := by rw [List.getElem?_map, hj]; rfl
  rw [show (Kd.int .i64).sz = 1 from rfl, Nat.mul_one]
  rw [List.take_one, List.head?_drop, hj']
  rfl
theorem clone_mem (b off c : Nat) (zs : List Int) (w : World) (hbig : zs.length * 8 ≤ 140737488355328) (hc : ∀ j, j < zs.length → w.cell? ⟨b, off + j, none⟩ = some (.int .i64 (zs.getD j 0))) :
    Calls Tryd.prog 34 #[.slice (some ⟨b, off, none⟩) zs.length c] w fun e w' => ∃ v', e = .returned v' ∧ Kd.R (Kd.int .i64) 3 w' w.heap.size (fun _ => True) v' zs ∧ Below w.heap.size w w' := by
  refine (Go.Proofs.Any.slices_Clone_int laysNm215 b off zs.length c zs w (Nat.le_refl _) hbig hc).mono ?_
  rintro e w' ⟨v', rfl, ho, _, hb⟩
  rw [List.take_length] at ho
  exact ⟨v', rfl, own_R ho, hb⟩

theorem clone_mem256 (g : Nat) (modv tv : Value) (mem : List Int) (fuel steps : Int) (w : World) (hm : mem.length = 256) (hb : w.heap[g]? = some (.cells (mCells modv tv mem fuel steps) 73 (0, 0))) :
    Calls Tryd.prog 34 #[.slice (some ⟨g, 1, none⟩) 256 256] w fun e w' => ∃ v', e = .returned v' ∧ Kd.R (Kd.int .i64) 3 w' w.heap.size (fun _ => True) v' mem ∧ Below w.heap.size w w' := by
  have h := clone_mem g 1 256 mem w (by omega) (fun j hj => by
    have := (blk_cell hb (1 + j)).trans (mCells_mem modv tv mem fuel steps j hj)
    rw [this]; simp [rd, List.getD])
  rwa [hm] at h

theorem wpS_then {P : Program} {B C : Code} {Q : Exit → Act → List Frame → World → Prop} {a : Act} {cs : List Frame} {w : World} (h : B.wp P (Exit.then (C.wp P (fun e a' w' => Q e a' cs w')) (fun e a' w' => Q e a' cs w')) a w) : B.wpS P (Exit.thenS (C.wpS P Q) Q) a cs w := by
  refine wpS_of_wp (wp_mono h fun e a' w' hq => ?_)
  cases e with
  | normal => exact wpS_of_wp hq
  | exit id => exact hq
  | goto l => exact hq
  | ret => exact hq
  | panic ch => exact hq
  | outgrown => exact hq
theorem wpS_body {P : Program} {B C : Code} {fn : Func} {c₀ c₁ : Frame} {cs : List Frame} {R : Ending → FrameMode → World → Prop} {a : Act} {w : World} (u : FrameMode) (hc : c₁ = { c₀ with mode := u })
    (h : B.wp P (Exit.then (C.wp P (bodyPost P fn fun e w' => R e u w')) (bodyPost P fn fun e w' => R e u w')) a w) : B.wpS P (Exit.thenS (C.wpS P (bodyPostS P fn c₀ cs R)) (bodyPostS P fn c₀ cs R)) a (c₁ :: cs) w := by
  have hQ : ∀ e a' w', bodyPost P fn (fun e w' => R e u w') e a' w' → bodyPostS P fn c₀ cs R e a' (c₁ :: cs) w' := by
    intro e a' w' h
    subst hc
    cases e with
    | normal => exact ⟨h.1, u, rfl, h.2⟩
    | ret => exact ⟨h.1, u, rfl, h.2⟩
    | panic ch => exact ⟨h.1, u, rfl, h.2⟩
    | exit id => exact h
    | goto l => exact h
    | outgrown => exact ⟨u, h⟩
  refine wpS_then (wp_mono h fun e a' w' hq => ?_)
  cases e with
  | normal => exact wp_mono hq hQ
  | exit id => exact hQ (.exit id) a' w' hq
  | goto l => exact hQ (.goto l) a' w' hq
  | ret => exact hQ .ret a' w' hq
  | panic ch => exact hQ (.panic ch) a' w' hq
  | outgrown => exact hQ .outgrown a' w' hq
theorem ta_trap (w : World) : Sem.run Tryd.prog (Instr.typeAssert (Value.iface 76 (Value.agg #[])) 20 76 true) w = .ok (.tuple #[.agg #[], .bool true]) w := by first | kernel_rfl | rfl
theorem ta_out1 (w : World) : Sem.run Tryd.prog (Instr.typeAssert (Value.iface 77 (Value.agg #[])) 20 76 true) w = .ok (.tuple #[.agg #[], .bool false]) w := by first | kernel_rfl | rfl
theorem ta_out2 (w : World) : Sem.run Tryd.prog (Instr.typeAssert (Value.iface 77 (Value.agg #[])) 20 77 true) w = .ok (.tuple #[.agg #[], .bool true]) w := by first | kernel_rfl | rfl
def DefPost (w0 : World) (go : Nat) (kd v : Int) (told mem : List Int) (steps : Int) (w' : World) : Prop :=
  ∃ A c B d, w'.heap[go]? = some (.cells #[.int .i64 kd, .int .i64 v, .slice A told.length c, .slice B mem.length d, .int .i64 steps] 35 (0, 0)) ∧ Kd.R (Kd.int .i64) 3 w' w0.heap.size (fun _ => True) (.slice A told.length c) told ∧ Kd.R (Kd.int .i64) 3 w' w0.heap.size (fun _ => True) (.slice B mem.length d) mem ∧ Below w0.heap.size w0 w'
theorem def_post {w0 w : World} {go : Nat} {kd v : Int} {told mem : List Int} {steps : Int} {tv mv t0 m0 s0 : Value} (ho : w.heap[go]? = some (.cells #[.int .i64 kd, .int .i64 v, t0, m0, s0] 35 (0, 0)))
    (hb : Below w0.heap.size w0 w) (hg : w0.heap.size ≤ go) {P : Nat → Prop} {b2 : Nat} (h1 : Kd.R (Kd.int .i64) 3 w w0.heap.size P tv told) (h2 : Kd.R (Kd.int .i64) 3 w b2 (fun _ => True) mv mem) (hb2 : w0.heap.size ≤ b2) :
    DefPost w0 go kd v told mem steps (((w.setCell ⟨go, 2, none⟩ tv).setCell ⟨go, 3, none⟩ mv).setCell ⟨go, 4, none⟩ (.int .i64 steps)) := by
  have o1 := blk_put (cs' := #[.int .i64 kd, .int .i64 v, tv, m0, s0]) ho 2 tv rfl
  have o2 := blk_put (cs' := #[.int .i64 kd, .int .i64 v, tv, mv, s0]) o1 3 mv rfl
  have o3 := blk_put (cs' := #[.int .i64 kd, .int .i64 v, tv, mv, .int .i64 steps]) o2 4 (.int .i64 steps) rfl
  have k1 := Kd.R_set (Kd.R_set (Kd.R_set h1 ho (by decide) 2 tv) o1 (by decide) 3 mv) o2 (by decide) 4 (.int .i64 steps)
  have k2 := Kd.R_set (Kd.R_set (Kd.R_set h2 ho (by decide) 2 tv) o1 (by decide) 3 mv) o2 (by decide) 4 (.int .i64 steps)
  obtain ⟨A, c, rfl⟩ := Kd.R_slice k1
  obtain ⟨B, d, rfl⟩ := Kd.R_slice k2
  exact ⟨A, c, B, d, o3, Kd.R_mono k1 (fun _ _ => trivial), Kd.R_lower k2 hb2, below_set (below_set (below_set hb hg) hg) hg⟩
set_option maxHeartbeats 4000000 in
set_option maxRecDepth 100000 in
theorem run_defer.idle (go gm g : Nat) (modv tv : Value) (mem told : List Int) (fuel steps kd v : Int) (t0 m0 s0 : Value) (w0 w : World) (hp : w.heap[gm]? = some (.cells #[.pointer (some ⟨g, 0, none⟩)] 70 (0, 0)))
    (hb : w.heap[g]? = some (.cells (mCells modv tv mem fuel steps) 73 (0, 0))) (hml : mem.length = 256) (ht : Kd.R (Kd.int .i64) 3 w w0.heap.size (fun _ => True) tv told)
    (ho : w.heap[go]? = some (.cells #[.int .i64 kd, .int .i64 v, t0, m0, s0] 35 (0, 0))) (hB : Below w0.heap.size w0 w) (hg : w0.heap.size ≤ go) :
    CallsD Tryd.prog 33 #[.pointer (some ⟨go, 0, none⟩), .pointer (some ⟨gm, 0, none⟩)] .returning w fun e u' w' => e = .returned (.tuple #[]) ∧ u' = .returning ∧ DefPost w0 go kd v told mem steps w' := by
  have hu := Tryd.underlying73
  have hu2 := Tryd.underlying35
  obtain ⟨At, ct, rfl⟩ := Kd.R_slice ht
  have p1 : w.cell? ⟨gm, 0, none⟩ = some (.pointer (some ⟨g, 0, none⟩)) := (blk_cell hp 0).trans rfl
  have p2 := (blk_cell hb 257).trans (mCells_told _ _ _ _ _ hml)
  have p3 := (blk_cell hb 259).trans (mCells_steps _ _ _ _ _ hml)
  have HB := Aside0.mk hb
  have HP := Aside0.mk hp
  have HT := Aside0.mk ht
  have HO := Aside0.mk ho
  have HBE := Aside0.mk hB
  clear hb hp ht ho hB
  refine callsD_of_wpS Tryd.func33 rfl fun c₀ cs hu' => ?_
  simp only [Tryd.ntmps33, List.size_toArray, List.length_cons, List.length_nil, Nat.reduceAdd, Nat.reduceSub, Array.replicate_succ, Array.replicate_zero, List.push_toArray, List.append_toArray, List.nil_append, List.cons_append]
  apply wpS_seq
  apply wpS_seq
  apply wpS_region
  simp [wpOpsS, go_sem, recoverD, hu', Exit.thenS]
  refine wpS_body .returning (by cases c₀; simp_all) ?_
  go_upto_region 11 with (fail)
  have n1 : gm ≠ go := blk_ne HP.out HO.out (by decide)
  have n2 : g ≠ go := blk_ne HB.out HO.out (by decide)
  have n3 := Ne.symm n1
  have n4 := Ne.symm n2
  go_region_held3 (fun W => W.cell? ⟨gm, 0, none⟩ = some (.pointer (some ⟨g, 0, none⟩)) ∧ W.cell? ⟨g, 257, none⟩ = some (.slice At told.length ct) ∧ W.cell? ⟨g, 259, none⟩ = some (.int .i64 steps)) (go_keep) (first | (go_at_call 34; (refine (clone_mem256 g modv (.slice At told.length ct) mem fuel steps _ hml (blk_drew HB.out)).mono ?_; rintro e w2 ⟨mv, rfl, hR, hb⟩; obtain ⟨Am, cm, rfl⟩ := Kd.R_slice hR; have q1 : w2.cell? ⟨gm, 0, none⟩ = some (.pointer (some ⟨g, 0, none⟩)) := (blk_cell (blk_below (blk_drew HP.out) hb) 0).trans rfl; have q2 := (blk_cell (blk_below (blk_drew HB.out) hb) 257).trans (mCells_told _ _ _ _ _ hml); have q3 := (blk_cell (blk_below (blk_drew HB.out) hb) 259).trans (mCells_steps _ _ _ _ _ hml); have O1 := (blk_below (blk_drew HO.out) hb); have O2 : w2.cell? ⟨go, 2, none⟩ = some t0 := (blk_cell O1 2).trans rfl; have O3 : w2.cell? ⟨go, 3, none⟩ = some m0 := (blk_cell O1 3).trans rfl; have O4 : w2.cell? ⟨go, 4, none⟩ = some s0 := (blk_cell O1 4).trans rfl; have z2 := blk_frozen O1 2; have z3 := blk_frozen O1 3; have z4 := blk_frozen O1 4; have HO1 := Aside0.mk O1; have HR := Aside0.mk hR; have HT1 := Aside0.mk (Kd.R_below (Kd.R_drew HT.out) hb); have HB1 := Aside0.mk (below_step (below_drew HBE.out) hb); clear hR hb O1)))
  all_goals
    refine bodyPost_end (results_none rfl _ _ _) rfl ?_
    have h := def_post (steps := steps) HO1.out HB1.out hg HT1.out HR.out HBE.out.size
    rw [hml] at h
    first | exact ⟨rfl, trivial, h⟩ | exact ⟨rfl, rfl, h⟩
set_option maxHeartbeats 4000000 in
set_option maxRecDepth 100000 in
theorem run_defer.trap (go gm g : Nat) (modv tv : Value) (mem told : List Int) (fuel steps kd v : Int) (t0 m0 s0 : Value) (w0 w : World) (hp : w.heap[gm]? = some (.cells #[.pointer (some ⟨g, 0, none⟩)] 70 (0, 0)))
    (hb : w.heap[g]? = some (.cells (mCells modv tv mem fuel steps) 73 (0, 0))) (hml : mem.length = 256) (ht : Kd.R (Kd.int .i64) 3 w w0.heap.size (fun _ => True) tv told)
    (ho : w.heap[go]? = some (.cells #[.int .i64 kd, .int .i64 v, t0, m0, s0] 35 (0, 0))) (hB : Below w0.heap.size w0 w) (hg : w0.heap.size ≤ go) :
    CallsD Tryd.prog 33 #[.pointer (some ⟨go, 0, none⟩), .pointer (some ⟨gm, 0, none⟩)] (.panicking [{ v := trapV, recovered := false }]) w fun e u' w' => e = .returned (.tuple #[]) ∧ u' = .panicking [{ v := trapV, recovered := true }] ∧ DefPost w0 go 2 v told mem steps w' := by
  have hu := Tryd.underlying73
  have hu2 := Tryd.underlying35
  obtain ⟨At, ct, rfl⟩ := Kd.R_slice ht
  have p1 : w.cell? ⟨gm, 0, none⟩ = some (.pointer (some ⟨g, 0, none⟩)) := (blk_cell hp 0).trans rfl
  have p2 := (blk_cell hb 257).trans (mCells_told _ _ _ _ _ hml)
  have p3 := (blk_cell hb 259).trans (mCells_steps _ _ _ _ _ hml)
  have HB := Aside0.mk hb
  have HP := Aside0.mk hp
  have HT := Aside0.mk ht
  have HO := Aside0.mk ho
  have HBE := Aside0.mk hB
  clear hb hp ht ho hB
  refine callsD_of_wpS Tryd.func33 rfl fun c₀ cs hu' => ?_
  simp only [Tryd.ntmps33, List.size_toArray, List.length_cons, List.length_nil, Nat.reduceAdd, Nat.reduceSub, Array.replicate_succ, Array.replicate_zero, List.push_toArray, List.append_toArray, List.nil_append, List.cons_append]
  apply wpS_seq
  apply wpS_seq
  apply wpS_region
  simp [wpOpsS, go_sem, recoverD, hu', Exit.thenS]
  refine wpS_body (.panicking [{ v := trapV, recovered := true }]) rfl ?_
  unfold trapV
  have ta_trap' := ta_trap
  have n1 : gm ≠ go := blk_ne HP.out HO.out (by decide)
  have n2 : g ≠ go := blk_ne HB.out HO.out (by decide)
  have n3 := Ne.symm n1
  have n4 := Ne.symm n2
  have HOA := Aside0.mk (blk_alloc HO.out (.cells #[] 76 (0, 0)))
  have o0 : (w.alloc (.cells #[] 76 (0, 0))).cell? ⟨go, 0, none⟩ = some (.int .i64 kd) := (blk_cell HOA.out 0).trans rfl
  have z0 := blk_frozen HOA.out 0
  clear p1 p2 p3
  obtain ⟨W, hW⟩ : ∃ W : World, W = (w.alloc (.cells #[] 76 (0, 0))).setCell ⟨go, 0, none⟩ (.int .i64 2) := ⟨_, rfl⟩
  have HB' := Aside0.mk (show W.heap[g]? = some (.cells (mCells modv (.slice At told.length ct) mem fuel steps) 73 (0, 0)) from by rw [hW]; exact blk_far (blk_alloc HB.out (.cells #[] 76 (0, 0))) n2 _)
  have HP' := Aside0.mk (show W.heap[gm]? = some (.cells #[.pointer (some ⟨g, 0, none⟩)] 70 (0, 0)) from by rw [hW]; exact blk_far (blk_alloc HP.out (.cells #[] 76 (0, 0))) n1 _)
  have HO' := Aside0.mk (show W.heap[go]? = some (.cells #[.int .i64 2, .int .i64 v, t0, m0, s0] 35 (0, 0)) from by rw [hW]; exact blk_put HOA.out 0 _ rfl)
  have HT' := Aside0.mk (show Kd.R (Kd.int .i64) 3 W w0.heap.size (fun _ => True) (.slice At told.length ct) told from by rw [hW]; exact Kd.R_set (Kd.R_below HT.out (below_alloc (Below.refl _ _) (.cells #[] 76 (0, 0)))) HOA.out (by decide) 0 _)
  have HBE' := Aside0.mk (show Below w0.heap.size w0 W from by rw [hW]; exact below_set (below_alloc HBE.out (.cells #[] 76 (0, 0))) hg)
  go_upto_region 11 with (fail)
  rw [← hW]
  clear hW o0 z0 HOA HB HP HO HT HBE
  have HB := HB'
  have HP := HP'
  have HO := HO'
  have HT := HT'
  have HBE := HBE'
  clear HB' HP' HO' HT' HBE'
  have p1 : W.cell? ⟨gm, 0, none⟩ = some (.pointer (some ⟨g, 0, none⟩)) := (blk_cell HP.out 0).trans rfl
  have p2 := (blk_cell HB.out 257).trans (mCells_told _ _ _ _ _ hml)
  have p3 := (blk_cell HB.out 259).trans (mCells_steps _ _ _ _ _ hml)
  go_region_held3 (fun W => W.cell? ⟨gm, 0, none⟩ = some (.pointer (some ⟨g, 0, none⟩)) ∧ W.cell? ⟨g, 257, none⟩ = some (.slice At told.length ct) ∧ W.cell? ⟨g, 259, none⟩ = some (.int .i64 steps)) (go_keep) (first | (go_at_call 34; (refine (clone_mem256 g modv (.slice At told.length ct) mem fuel steps _ hml (blk_drew HB.out)).mono ?_; rintro e w2 ⟨mv, rfl, hR, hb⟩; obtain ⟨Am, cm, rfl⟩ := Kd.R_slice hR; have q1 : w2.cell? ⟨gm, 0, none⟩ = some (.pointer (some ⟨g, 0, none⟩)) := (blk_cell (blk_below (blk_drew HP.out) hb) 0).trans rfl; have q2 := (blk_cell (blk_below (blk_drew HB.out) hb) 257).trans (mCells_told _ _ _ _ _ hml); have q3 := (blk_cell (blk_below (blk_drew HB.out) hb) 259).trans (mCells_steps _ _ _ _ _ hml); have O1 := (blk_below (blk_drew HO.out) hb); have O2 : w2.cell? ⟨go, 2, none⟩ = some t0 := (blk_cell O1 2).trans rfl; have O3 : w2.cell? ⟨go, 3, none⟩ = some m0 := (blk_cell O1 3).trans rfl; have O4 : w2.cell? ⟨go, 4, none⟩ = some s0 := (blk_cell O1 4).trans rfl; have z2 := blk_frozen O1 2; have z3 := blk_frozen O1 3; have z4 := blk_frozen O1 4; have HO1 := Aside0.mk O1; have HR := Aside0.mk hR; have HT1 := Aside0.mk (Kd.R_below (Kd.R_drew HT.out) hb); have HB1 := Aside0.mk (below_step (below_drew HBE.out) hb); clear hR hb O1)))
  all_goals
    refine bodyPost_end (results_none rfl _ _ _) rfl ?_
    have h := def_post (steps := steps) HO1.out HB1.out hg HT1.out HR.out HBE.out.size
    rw [hml] at h
    first | exact ⟨rfl, trivial, h⟩ | exact ⟨rfl, rfl, h⟩
set_option maxHeartbeats 4000000 in
set_option maxRecDepth 100000 in
theorem run_defer.out (go gm g : Nat) (modv tv : Value) (mem told : List Int) (fuel steps kd v : Int) (t0 m0 s0 : Value) (w0 w : World) (hp : w.heap[gm]? = some (.cells #[.pointer (some ⟨g, 0, none⟩)] 70 (0, 0)))
    (hb : w.heap[g]? = some (.cells (mCells modv tv mem fuel steps) 73 (0, 0))) (hml : mem.length = 256) (ht : Kd.R (Kd.int .i64) 3 w w0.heap.size (fun _ => True) tv told)
    (ho : w.heap[go]? = some (.cells #[.int .i64 kd, .int .i64 v, t0, m0, s0] 35 (0, 0))) (hB : Below w0.heap.size w0 w) (hg : w0.heap.size ≤ go) :
    CallsD Tryd.prog 33 #[.pointer (some ⟨go, 0, none⟩), .pointer (some ⟨gm, 0, none⟩)] (.panicking [{ v := outV, recovered := false }]) w fun e u' w' => e = .returned (.tuple #[]) ∧ u' = .panicking [{ v := outV, recovered := true }] ∧ DefPost w0 go 3 v told mem steps w' := by
  have hu := Tryd.underlying73
  have hu2 := Tryd.underlying35
  obtain ⟨At, ct, rfl⟩ := Kd.R_slice ht
  have p1 : w.cell? ⟨gm, 0, none⟩ = some (.pointer (some ⟨g, 0, none⟩)) := (blk_cell hp 0).trans rfl
  have p2 := (blk_cell hb 257).trans (mCells_told _ _ _ _ _ hml)
  have p3 := (blk_cell hb 259).trans (mCells_steps _ _ _ _ _ hml)
  have HB := Aside0.mk hb
  have HP := Aside0.mk hp
  have HT := Aside0.mk ht
  have HO := Aside0.mk ho
  have HBE := Aside0.mk hB
  clear hb hp ht ho hB
  refine callsD_of_wpS Tryd.func33 rfl fun c₀ cs hu' => ?_
  simp only [Tryd.ntmps33, List.size_toArray, List.length_cons, List.length_nil, Nat.reduceAdd, Nat.reduceSub, Array.replicate_succ, Array.replicate_zero, List.push_toArray, List.append_toArray, List.nil_append, List.cons_append]
  apply wpS_seq
  apply wpS_seq
  apply wpS_region
  simp [wpOpsS, go_sem, recoverD, hu', Exit.thenS]
  refine wpS_body (.panicking [{ v := outV, recovered := true }]) rfl ?_
  unfold outV
  have ta_out1' := ta_out1
  have ta_out2' := ta_out2
  have n1 : gm ≠ go := blk_ne HP.out HO.out (by decide)
  have n2 : g ≠ go := blk_ne HB.out HO.out (by decide)
  have n3 := Ne.symm n1
  have n4 := Ne.symm n2
  have HOA := Aside0.mk (blk_alloc HO.out (.cells #[] 77 (0, 0)))
  have o0 : (w.alloc (.cells #[] 77 (0, 0))).cell? ⟨go, 0, none⟩ = some (.int .i64 kd) := (blk_cell HOA.out 0).trans rfl
  have z0 := blk_frozen HOA.out 0
  clear p1 p2 p3
  obtain ⟨W, hW⟩ : ∃ W : World, W = (w.alloc (.cells #[] 77 (0, 0))).setCell ⟨go, 0, none⟩ (.int .i64 3) := ⟨_, rfl⟩
  have HB' := Aside0.mk (show W.heap[g]? = some (.cells (mCells modv (.slice At told.length ct) mem fuel steps) 73 (0, 0)) from by rw [hW]; exact blk_far (blk_alloc HB.out (.cells #[] 77 (0, 0))) n2 _)
  have HP' := Aside0.mk (show W.heap[gm]? = some (.cells #[.pointer (some ⟨g, 0, none⟩)] 70 (0, 0)) from by rw [hW]; exact blk_far (blk_alloc HP.out (.cells #[] 77 (0, 0))) n1 _)
  have HO' := Aside0.mk (show W.heap[go]? = some (.cells #[.int .i64 3, .int .i64 v, t0, m0, s0] 35 (0, 0)) from by rw [hW]; exact blk_put HOA.out 0 _ rfl)
  have HT' := Aside0.mk (show Kd.R (Kd.int .i64) 3 W w0.heap.size (fun _ => True) (.slice At told.length ct) told from by rw [hW]; exact Kd.R_set (Kd.R_below HT.out (below_alloc (Below.refl _ _) (.cells #[] 77 (0, 0)))) HOA.out (by decide) 0 _)
  have HBE' := Aside0.mk (show Below w0.heap.size w0 W from by rw [hW]; exact below_set (below_alloc HBE.out (.cells #[] 77 (0, 0))) hg)
  go_upto_region 11 with (fail)
  rw [← hW]
  clear hW o0 z0 HOA HB HP HO HT HBE
  have HB := HB'
  have HP := HP'
  have HO := HO'
  have HT := HT'
  have HBE := HBE'
  clear HB' HP' HO' HT' HBE'
  have p1 : W.cell? ⟨gm, 0, none⟩ = some (.pointer (some ⟨g, 0, none⟩)) := (blk_cell HP.out 0).trans rfl
  have p2 := (blk_cell HB.out 257).trans (mCells_told _ _ _ _ _ hml)
  have p3 := (blk_cell HB.out 259).trans (mCells_steps _ _ _ _ _ hml)
  go_region_held3 (fun W => W.cell? ⟨gm, 0, none⟩ = some (.pointer (some ⟨g, 0, none⟩)) ∧ W.cell? ⟨g, 257, none⟩ = some (.slice At told.length ct) ∧ W.cell? ⟨g, 259, none⟩ = some (.int .i64 steps)) (go_keep) (first | (go_at_call 34; (refine (clone_mem256 g modv (.slice At told.length ct) mem fuel steps _ hml (blk_drew HB.out)).mono ?_; rintro e w2 ⟨mv, rfl, hR, hb⟩; obtain ⟨Am, cm, rfl⟩ := Kd.R_slice hR; have q1 : w2.cell? ⟨gm, 0, none⟩ = some (.pointer (some ⟨g, 0, none⟩)) := (blk_cell (blk_below (blk_drew HP.out) hb) 0).trans rfl; have q2 := (blk_cell (blk_below (blk_drew HB.out) hb) 257).trans (mCells_told _ _ _ _ _ hml); have q3 := (blk_cell (blk_below (blk_drew HB.out) hb) 259).trans (mCells_steps _ _ _ _ _ hml); have O1 := (blk_below (blk_drew HO.out) hb); have O2 : w2.cell? ⟨go, 2, none⟩ = some t0 := (blk_cell O1 2).trans rfl; have O3 : w2.cell? ⟨go, 3, none⟩ = some m0 := (blk_cell O1 3).trans rfl; have O4 : w2.cell? ⟨go, 4, none⟩ = some s0 := (blk_cell O1 4).trans rfl; have z2 := blk_frozen O1 2; have z3 := blk_frozen O1 3; have z4 := blk_frozen O1 4; have HO1 := Aside0.mk O1; have HR := Aside0.mk hR; have HT1 := Aside0.mk (Kd.R_below (Kd.R_drew HT.out) hb); have HB1 := Aside0.mk (below_step (below_drew HBE.out) hb); clear hR hb O1)))
  all_goals
    refine bodyPost_end (results_none rfl _ _ _) rfl ?_
    have h := def_post (steps := steps) HO1.out HB1.out hg HT1.out HR.out HBE.out.size
    rw [hml] at h
    first | exact ⟨rfl, trivial, h⟩ | exact ⟨rfl, rfl, h⟩
end Go.Proofs.YtoilapjkgligfaaDoor.P
