import Derived.Test.YtoilapjkgligfaaDoorKP
import Derived.Test.YtoilapjkgligfaaDoorKGRunC
import Derived.Test.YtoilapjkgligfaaDoorKGRunD
namespace Go.Proofs.YtoilapjkgligfaaDoor.P
set_option linter.unusedVariables false
open Go.RowKit Go.Proofs.YtoilapjkgligfaaDoorW.PrintWords Go.Proofs.YtoilapjkgligfaaDoorW.PrintLast Go.Proofs.YtoilapjkgligfaaDoorW.PrintMore

def memJ (mem : List Int) (j : Nat) : List Int := (List.range 256).map fun i => if i < j then word (rd mem i) else 0
def valJ (args : List Int) (j : Nat) : List Int := (args.take j).map word ++ List.replicate (args.length - j) 0
theorem memJ_length (mem : List Int) (j : Nat) : (memJ mem j).length = 256 := by simp [memJ]
theorem memJ_zero (mem : List Int) : memJ mem 0 = List.replicate 256 0 := by
  unfold memJ
  simp only [Nat.not_lt_zero, if_false]
  rw [List.map_const', List.length_range]
theorem memJ_set (mem : List Int) (j : Nat) (h : j < 256) : (memJ mem j).set j (word (rd mem j)) = memJ mem (j + 1) := by
  apply List.ext_getElem?
  intro i
  simp only [memJ, List.getElem?_set, List.length_map, List.length_range, List.getElem?_map]
  by_cases e : j = i
  · subst e; simp [h]
  · by_cases hi : i < 256
    · have : (i < j) = (i < j + 1) := by simp; omega
      simp [e, hi, this]
    · simp [e, hi]
theorem memJ_end (mem : List Int) (j : Nat) (h : j = min mem.length 256) : memJ mem j = mem0 mem := by
  apply List.ext_getElem?
  intro i
  simp only [memJ, mem0, List.getElem?_map]
  by_cases hi : i < 256
  · have : (i < j) = (i < mem.length) := by simp; omega
    simp [hi, this]
  · simp [hi]
theorem valJ_length (l : List Int) (j : Nat) (h : j ≤ l.length) : (valJ l j).length = l.length := by simp [valJ]; omega
theorem valJ_zero (l : List Int) : valJ l 0 = List.replicate l.length 0 := by simp [valJ]
theorem valJ_set (l : List Int) (j : Nat) (h : j < l.length) : (valJ l j).set j (word (rd l j)) = valJ l (j + 1) := by
  have e : l.length - j = (l.length - (j + 1)) + 1 := by omega
  have h1 : min j l.length = j := by omega
  unfold valJ
  rw [List.set_append_right _ _ (by simp; omega), e, List.replicate_succ]
  simp only [List.length_map, List.length_take, h1, Nat.sub_self, List.set_cons_zero]
  rw [List.take_add_one, List.getElem?_eq_getElem h, List.map_append, List.append_assoc]
  simp only [rd, Int.toNat_natCast, List.getD, List.getElem?_eq_getElem h, Option.getD_some, Option.toList_some, List.map_cons, List.map_nil, List.cons_append, List.nil_append]
theorem valJ_end (l : List Int) : valJ l l.length = l.map word := by simp [valJ]

structure RunI (w0 : World) (g go gm : Nat) (modv : Value) (mem : List Int) (fuel : Int) (w1 : World) : Prop where mk ::
  m : w1.heap[g]? = some (.cells (mCells modv (.slice none 0 0) mem fuel 0) 73 (0, 0))
  ml : mem.length = 256
  o : w1.heap[go]? = some (.cells #[.int .i64 0, .int .i64 0, .slice none 0 0, .slice none 0 0, .int .i64 0] 35 (0, 0))
  p : w1.heap[gm]? = some (.cells #[.pointer (some ⟨g, 0, none⟩)] 70 (0, 0))
  b : Below w0.heap.size w0 w1
  hg : w0.heap.size ≤ g
  ho : w0.heap.size ≤ go
section
variable {w0 : World} {g go gm : Nat} {modv : Value} {mem : List Int} {fuel : Int} {w1 w2 : World}
theorem RunI.below (h : RunI w0 g go gm modv mem fuel w1) (hb : Below w1.heap.size w1 w2) : RunI w0 g go gm modv mem fuel w2 := by
  obtain ⟨h1, h2, h3, h4, h5, h6, h7⟩ := h
  exact ⟨blk_below h1 hb, h2, blk_below h3 hb, blk_below h4 hb, below_step h5 hb, h6, h7⟩
theorem RunI.drewN (h : RunI w0 g go gm modv mem fuel w1) (n : Nat) : RunI w0 g go gm modv mem fuel (w1.drewN n) := h.below (pw_below_drewN (Below.refl _ _) n)
theorem RunI.setMem (h : RunI w0 g go gm modv mem fuel w1) (i : Nat) (v : Int) (hi : i < 256) : RunI w0 g go gm modv (mem.set i v) fuel (w1.setCell ⟨g, 1 + i, none⟩ (.int .i64 v)) := by
  obtain ⟨h1, h2, h3, h4, h5, h6, h7⟩ := h
  exact ⟨blk_put h1 (1 + i) _ (mCells_set_mem _ _ _ _ _ _ _ (by omega)), by simpa using h2, blk_far h3 (blk_ne h3 h1 (by decide)) _, blk_far h4 (blk_ne h4 h1 (by decide)) _, below_set h5 h6, h6, h7⟩
theorem RunI.setV (h : RunI w0 g go gm modv mem fuel w1) {gv : Nat} {cs : Array Value} (hv : w1.heap[gv]? = some (.cells cs 3 (0, 0))) (hg : w0.heap.size ≤ gv) (i : Nat) (v : Value) : RunI w0 g go gm modv mem fuel (w1.setCell ⟨gv, i, none⟩ v) := by
  obtain ⟨h1, h2, h3, h4, h5, h6, h7⟩ := h
  exact ⟨blk_far h1 (blk_ne h1 hv (by decide)) _, h2, blk_far h3 (blk_ne h3 hv (by decide)) _, blk_far h4 (blk_ne h4 hv (by decide)) _, below_set h5 hg, h6, h7⟩
end
theorem alloc_size (w : World) (o : Obj) : (w.alloc o).heap.size = w.heap.size + 1 := Array.size_push ..
theorem zero_machine (v : Value) (fuel : Int) : ((Tryd.zeroCells73.setIfInBounds 0 v).setIfInBounds 258 (.int .i64 fuel)) = mCells v (.slice none 0 0) (List.replicate 256 0) fuel 0 := by kernel_rfl
theorem clamp_def (fuel : Int) : max 0 (min fuel 1048576) = clampFuel fuel := rfl
theorem C_of_ints {w : World} {gv : Nat} {l : List Int} (h : w.heap[gv]? = some (.cells (l.map (Value.int .i64)).toArray 3 (0, 0))) (hl : l.length ≤ 9223372036854775807) : Kd.C (Kd.int .i64) w (some ⟨gv, 0, none⟩) l.length l := by
  refine ⟨rfl, hl, fun _ => ⟨_, rfl, fun j p hj => ⟨[.int .i64 p], rfl, rfl, fun i u hu => ?_⟩⟩⟩
  cases i with
  | succ i => simp at hu
  | zero =>
    obtain rfl : Value.int .i64 p = u := by simpa using hu
    rw [show (Kd.int .i64).sz = 1 from rfl, Nat.mul_one, Nat.add_zero]
    rw [show (Addr.add ⟨gv, 0, none⟩ j) = ⟨gv, j, none⟩ from by simp [Addr.add]; exact fun h => h.symm]
    rw [blk_cell h j, List.getElem?_toArray, List.getElem?_map, hj]
    rfl
theorem RunI.post {w0 : World} {g go gm : Nat} {modv : Value} {mem : List Int} {fuel : Int} {w1 : World} (h : RunI w0 g go gm modv mem fuel w1) {e : Ending} (he : e = endOf 2 0) : CallPost w0 g go gm modv #[.int .i64 0, .int .i64 0, .slice none 0 0, .slice none 0 0, .int .i64 0] #[.pointer (some ⟨g, 0, none⟩)] fuel (2, 0, [], mem, 0) e w1 := by
  obtain ⟨h1, h2, h3, h4, h5, h6, h7⟩ := h
  exact ⟨he, ⟨_, h1, Kd.R_nil _ _ _ _ _⟩, h2, h3, h4, h5⟩
theorem run_call.all (k : Nat) (nm : ByteArray) (g go gm gv : Nat) (A : Option Addr) (c : Nat) (mod : List S24) (vals mem : List Int) (fuel : Int) (c2 : Nat) (w0 w : World) (res : RunR)
    (HI : RunI w0 g go gm (.slice A mod.length c) mem fuel w) (hfu : fuel ≤ 1048576) (hr : Kd.C k24 w0 A mod.length mod) (hv : w.heap[gv]? = some (.cells (vals.map (Value.int .i64)).toArray 3 (0, 0))) (hl : vals.length ≤ 1048576)
    (h : (match mod.find? (fun f => f.f0.toList == nm.toList) with
      | none => some (2, 0, [], mem, 0)
      | some f => if f.f1 ≠ (vals.length : Int) then some (2, 0, [], mem, 0) else
        if 0 ≤ f.f2 ∧ f.f2 ≤ 1000 then (gb f.f3 0).bind fun b => runL f.f3 fuel k (regs0 vals f.f2.toNat) b mem [] 0 else none) = some res) :
    Calls Tryd.prog 35 #[.pointer (some ⟨g, 0, none⟩), .string nm, .slice (some ⟨gv, 0, none⟩) vals.length c2, .int .i64 0] w (CallPost w0 g go gm (.slice A mod.length c) #[.int .i64 0, .int .i64 0, .slice none 0 0, .slice none 0 0, .int .i64 0] #[.pointer (some ⟨g, 0, none⟩)] fuel res) := by
  have hr' := Kd.C_below hr HI.b
  split at h
  · next hf =>
    obtain rfl := Option.some.inj h
    refine (run_call.none_ nm g A c mod _ mem vals fuel 0 _ c2 w HI.m hr' hf).mono ?_
    rintro e w' ⟨he, hb⟩
    exact (HI.below hb).post he
  · next f hf =>
    split at h
    · next hp =>
      obtain rfl := Option.some.inj h
      refine (run_call.arity nm g A c mod f _ mem vals fuel 0 _ c2 w HI.m hr' hf hp).mono ?_
      rintro e w' ⟨he, hb⟩
      exact (HI.below hb).post he
    · next hp =>
      split at h
      · next hreg =>
        obtain ⟨b, hgb, h⟩ := Option.bind_eq_some_iff.mp h
        exact run_call.calls k nm g go gm A c mod f b mem vals fuel _ c2 _ _ res w0 w HI.m HI.ml hfu hr (C_of_ints hv (by omega)) hf (by omega) hreg hgb HI.o HI.p HI.b HI.hg h
      · cases h
def RunPost (w0 : World) (res : RunR) (e : Ending) (w' : World) : Prop :=
  ∃ A c B d, e = .returned (.agg #[.int .i64 res.1, .int .i64 res.2.1, .slice A res.2.2.1.length c, .slice B res.2.2.2.1.length d, .int .i64 res.2.2.2.2]) ∧ Kd.R (Kd.int .i64) 3 w' w0.heap.size (fun _ => True) (.slice A res.2.2.1.length c) res.2.2.1 ∧ Kd.R (Kd.int .i64) 3 w' w0.heap.size (fun _ => True) (.slice B res.2.2.2.1.length d) res.2.2.2.1 ∧ Below w0.heap.size w0 w'
theorem instrL_kind {B : List (List S32)} {next : List Int → List S32 → List Int → List Int → Int → Option RunR} (hn : ∀ r rest mem told steps res, next r rest mem told steps = some res → res.1 = 1 ∨ (res.1 = 2 ∨ res.1 = 3) ∧ res.2.1 = 0)
    (r : List Int) (x : S32) (rest : List S32) (mem told : List Int) (steps : Int) (res : RunR) (h : instrL B next r x rest mem told steps = some res) : res.1 = 1 ∨ (res.1 = 2 ∨ res.1 = 3) ∧ res.2.1 = 0 := by
  unfold instrL at h
  split at h
  · obtain ⟨_, _, h⟩ := Option.bind_eq_some_iff.mp h; exact hn _ _ _ _ _ _ h
  split at h
  · obtain ⟨_, _, h⟩ := Option.bind_eq_some_iff.mp h; obtain ⟨_, _, h⟩ := Option.bind_eq_some_iff.mp h; exact hn _ _ _ _ _ _ h
  split at h
  · obtain ⟨_, _, h⟩ := Option.bind_eq_some_iff.mp h
    split at h
    · obtain ⟨_, _, h⟩ := Option.bind_eq_some_iff.mp h; exact hn _ _ _ _ _ _ h
    · cases h
  split at h
  · obtain ⟨_, _, h⟩ := Option.bind_eq_some_iff.mp h
    split at h
    · obtain ⟨_, _, h⟩ := Option.bind_eq_some_iff.mp h; exact hn _ _ _ _ _ _ h
    · cases h
  split at h
  · obtain ⟨_, _, h⟩ := Option.bind_eq_some_iff.mp h
    split at h
    · exact hn _ _ _ _ _ _ h
    · cases h
  split at h
  · cases h
  split at h
  · obtain ⟨_, _, h⟩ := Option.bind_eq_some_iff.mp h; exact hn _ _ _ _ _ _ h
  split at h
  · obtain ⟨_, _, h⟩ := Option.bind_eq_some_iff.mp h; obtain ⟨_, _, h⟩ := Option.bind_eq_some_iff.mp h
    split at h
    · exact hn _ _ _ _ _ _ h
    · obtain ⟨_, _, h⟩ := Option.bind_eq_some_iff.mp h; exact hn _ _ _ _ _ _ h
  split at h
  · obtain ⟨_, _, h⟩ := Option.bind_eq_some_iff.mp h
    obtain rfl := Option.some.inj h
    exact Or.inl rfl
  · obtain ⟨_, _, h⟩ := Option.bind_eq_some_iff.mp h; obtain ⟨_, _, h⟩ := Option.bind_eq_some_iff.mp h; obtain ⟨_, _, h⟩ := Option.bind_eq_some_iff.mp h
    split at h
    · obtain ⟨_, _, h⟩ := Option.bind_eq_some_iff.mp h; exact hn _ _ _ _ _ _ h
    · obtain rfl := Option.some.inj h
      exact Or.inr ⟨Or.inl rfl, rfl⟩
theorem runL_kind {B : List (List S32)} {fuel : Int} (k : Nat) : ∀ (r : List Int) (rest : List S32) (mem told : List Int) (steps : Int) (res : RunR), runL B fuel k r rest mem told steps = some res → res.1 = 1 ∨ (res.1 = 2 ∨ res.1 = 3) ∧ res.2.1 = 0 := by
  induction k with
  | zero => intro r rest mem told steps res h; simp [runL] at h
  | succ k ih =>
    intro r rest mem told steps res h
    unfold runL at h
    split at h
    · obtain rfl := Option.some.inj h
      exact Or.inr ⟨Or.inr rfl, rfl⟩
    · split at h
      · cases h
      · exact instrL_kind ih _ _ _ _ _ _ _ h
theorem run_kind {k : Nat} {mod : List S24} {name : ByteArray} {args mem : List Int} {fuel : Int} {res : RunR} (h : run_Run.f k mod name args mem fuel = some res) : res.1 = 1 ∨ (res.1 = 2 ∨ res.1 = 3) ∧ res.2.1 = 0 := by
  unfold run_Run.f runCall at h
  split at h
  · obtain rfl := Option.some.inj h; simp
  · split at h
    · obtain rfl := Option.some.inj h; simp
    · split at h
      · obtain ⟨b, _, h⟩ := Option.bind_eq_some_iff.mp h
        exact runL_kind _ _ _ _ _ _ _ h
      · cases h
theorem run_leaves (tmps : Array Value) (go : Nat) (w0 w' : World) (kd v : Int) (told mem : List Int) (steps : Int) (ht : tmps[10]? = some (.pointer (some ⟨go, 0, none⟩))) (hd : DefPost w0 go kd v told mem steps w') :
    Leaves Tryd.prog Tryd.f12 tmps (RunPost w0 (kd, v, told, mem, steps)) [] .returning w' := by
  obtain ⟨A, c, B, d, ho, hA, hB, hb⟩ := hd
  have o0 : w'.cell? ⟨go, 0, none⟩ = _ := (blk_cell ho 0).trans rfl
  have o1 : w'.cell? ⟨go, 1, none⟩ = _ := (blk_cell ho 1).trans rfl
  have o2 : w'.cell? ⟨go, 2, none⟩ = _ := (blk_cell ho 2).trans rfl
  have o3 : w'.cell? ⟨go, 3, none⟩ = _ := (blk_cell ho 3).trans rfl
  have o4 : w'.cell? ⟨go, 4, none⟩ = _ := (blk_cell ho 4).trans rfl
  have hu2 := Tryd.underlying35
  refine ⟨.agg #[.int .i64 kd, .int .i64 v, .slice A told.length c, .slice B mem.length d, .int .i64 steps], ?_, A, c, B, d, rfl, hA, hB, hb⟩
  simp [results, go_sem, ht, o0, o1, o2, o3, o4]
set_option maxHeartbeats 4000000 in
set_option maxRecDepth 100000 in
theorem run_Run.calls (k : Nat) (mod : List S24) (nm : ByteArray) (args mem : List Int) (fuel : Int) (A : Option Addr) (c : Nat) (A2 : Option Addr) (c2 : Nat) (A3 : Option Addr) (c3 : Nat) (w : World) (res : RunR)
    (hr : Kd.C k24 w A mod.length mod) (hv : Kd.C (Kd.int .i64) w A2 args.length args) (hm : Kd.C (Kd.int .i64) w A3 mem.length mem) (hc3 : mem.length ≤ c3) (hal : args.length ≤ 1048576) (h : run_Run.f k mod nm args mem fuel = some res) :
    Calls Tryd.prog 12 #[.slice A mod.length c, .string nm, .slice A2 args.length c2, .slice A3 mem.length c3, .int .i64 fuel] w (RunPost w res) := by
  have hu := Tryd.underlying73
  have hmf : ∀ (fn : Fn) (first cap : Array Value) (w : World), (Instr.makeFunc fn first cap).run Tryd.prog w = .ok (.func fn first cap) w := fun _ _ _ _ => rfl
  have HR := Aside0.mk hr
  have HV := Aside0.mk hv
  have HM := Aside0.mk hm
  have H := Aside0.mk h
  clear hr hv hm h
  go_enter_defers Tryd.func12, Tryd.ntmps12
  go_upto_region 2 with (fail)
  rw [zero_machine, clamp_def]
  obtain ⟨w1, hw1⟩ : ∃ w1 : World, w1 = (((w.alloc (Obj.cells #[Value.int IntKind.i64 0, Value.int IntKind.i64 0, Value.slice none 0 0, Value.slice none 0 0, Value.int IntKind.i64 0] 35)).alloc (Obj.cells (mCells (.slice A mod.length c) (.slice none 0 0) (List.replicate 256 0) (clampFuel fuel) 0) 73)).alloc (Obj.cells #[Value.pointer (some { block := w.heap.size + 1, off := 0 })] 70)) := ⟨_, rfl⟩
  have HI := Aside0.mk (show RunI w (w.heap.size + 1) w.heap.size (w.heap.size + 1 + 1) (.slice A mod.length c) (memJ mem 0) (clampFuel fuel) w1 by
    rw [hw1, memJ_zero]
    have n1 := blk_new (w.alloc (Obj.cells #[Value.int IntKind.i64 0, Value.int IntKind.i64 0, Value.slice none 0 0, Value.slice none 0 0, Value.int IntKind.i64 0] 35)) (Obj.cells (mCells (.slice A mod.length c) (.slice none 0 0) (List.replicate 256 0) (clampFuel fuel) 0) 73)
    rw [alloc_size] at n1
    have n2 := blk_new ((w.alloc (Obj.cells #[Value.int IntKind.i64 0, Value.int IntKind.i64 0, Value.slice none 0 0, Value.slice none 0 0, Value.int IntKind.i64 0] 35)).alloc (Obj.cells (mCells (.slice A mod.length c) (.slice none 0 0) (List.replicate 256 0) (clampFuel fuel) 0) 73)) (Obj.cells #[Value.pointer (some { block := w.heap.size + 1, off := 0 })] 70)
    rw [alloc_size, alloc_size] at n2
    exact ⟨blk_alloc n1 _, List.length_replicate .., blk_alloc (blk_alloc (blk_new _ _) _) _, n2, below_alloc (below_alloc (below_alloc (Below.refl _ _) _) _) _, by omega, by omega⟩)
  rw [← hw1]
  clear hw1
  generalize Value.agg (mCells (.slice A mod.length c) (.slice none 0 0) (List.replicate 256 0) (clampFuel fuel) 0) = va
  generalize w.heap.size + 1 + 1 = gm at HI ⊢
  generalize w.heap.size + 1 = g at HI ⊢
  generalize hgo : w.heap.size = go at HI ⊢
  go_wp2
  go_loopw [30] (fun v30 wr => ∃ j : Nat, v30 = .int .i64 j ∧ j ≤ min mem.length 256 ∧ Aside0 (RunI w g go gm (.slice A mod.length c) (memJ mem j) (clampFuel fuel) wr)) (fun v30 _ => 256 - (intOf v30).toNat)
  case atStart => exact ⟨0, rfl, Nat.zero_le _, HI⟩
  case round =>
    clear HI
    obtain ⟨j, rfl, hj, HI⟩ := hrel
    by_cases hlt : j < min mem.length 256
    · obtain ⟨ad, e, hx⟩ := Kd.at_int HM.out j (by omega) (by omega)
      cases e
      rw [Int.toNat_natCast] at hx
      replace hx := (HI.out.b.cell (World.block_lt_of_cell? w _ hx)).trans hx
      go_upto_region 5 with (fail)
      have gc : wr.cell? ⟨gm, 0, none⟩ = some (.pointer (some ⟨g, 0, none⟩)) := (blk_cell HI.out.p 0).trans rfl
      have mc : wr.cell? ⟨g, 1 + j, none⟩ = some (.int .i64 (rd (memJ mem j) j)) := (blk_cell HI.out.m (1 + j)).trans (mCells_mem _ _ _ _ _ _ (by rw [memJ_length]; omega))
      have mz := blk_frozen HI.out.m (1 + j)
      have n1 : gm ≠ g := blk_ne HI.out.p HI.out.m (by decide)
      have n2 := Ne.symm n1
      have i0 : (0 : Int) ≤ (j : Int) := by omega
      have i1 : (j : Int) < 256 := by omega
      go_region_held3 (fun W => W.cell? ⟨gm, 0, none⟩ = some (.pointer (some ⟨g, 0, none⟩))) (go_keep) (first | (go_at_call 32; refine (run_Word.calls _ _ _ rfl).mono ?_; rintro e w' ⟨rfl, nd, rfl⟩))
      all_goals
        go_wp2
        go_roundw
        case rel =>
          refine ⟨j + 1, by go_num, by omega, ⟨?_⟩⟩
          rw [← memJ_set mem j (by omega)]
          exact (HI.out.drewN _).setMem j _ (by omega)
        case measure => simp [intOf]; omega
    · have hje : j = min mem.length 256 := by omega
      rw [memJ_end mem j hje] at HI
      obtain ⟨i0, hi, hz0, hz1, hz2⟩ := info_parts info3
      have HIw := HI
      go_upto_region 8 with (fail)
      go_upto_region 9 with (at_make; refine wpList_make_full _ rfl _ _ 26 rfl wr.heap.size 3 i0 (.int .i64 0) 1 Tryd.underlying26 hi hz0 hz1 .i64 .i64 args.length args.length args.length rfl rfl (by omega) (by omega) (by rw [hz2]; omega) (by unfold maxLen; omega) (Nat.le_refl _) ?_; intro w5 hown hgrow; have HG5 := Aside0.mk (own_full hown); have HB5 := Aside0.mk (below_grown_none hgrow); clear hown hgrow)
      have HV5 := Aside0.mk (show w5.heap[wr.heap.size]? = some (.cells ((valJ args 0).map (Value.int .i64)).toArray 3 (0, 0)) by
        have h := HG5.out
        rw [show (Value.int .i64 0).cells = #[.int .i64 0] from rfl, Nat.mul_one, toList_madeCells_one] at h
        rw [valJ_zero, List.map_replicate]
        exact h)
      have HI5 := Aside0.mk (HI.out.below HB5.out)
      have hgv := HI.out.b.size
      clear HG5 HB5 HI HIw hi hz0 hz1 hz2
      generalize wr.heap.size = gv at HV5 hgv ⊢
      go_wp2
      go_loopw [49] (fun v49 wr => ∃ j : Nat, v49 = .int .i64 j ∧ j ≤ args.length ∧ Aside0 (RunI w g go gm (.slice A mod.length c) (mem0 mem) (clampFuel fuel) wr) ∧ Aside0 (wr.heap[gv]? = some (.cells ((valJ args j).map (Value.int .i64)).toArray 3 (0, 0)))) (fun v49 _ => args.length - (intOf v49).toNat)
      case atStart => exact ⟨0, rfl, Nat.zero_le _, HI5, HV5⟩
      case round =>
        clear HI5 HV5
        obtain ⟨j2, rfl, hj2, HI, HV2⟩ := hrel
        by_cases hlt2 : j2 < args.length
        · obtain ⟨ad, e, hx⟩ := Kd.at_int HV.out j2 (by omega) (by omega)
          cases e
          rw [Int.toNat_natCast] at hx
          replace hx := (HI.out.b.cell (World.block_lt_of_cell? w _ hx)).trans hx
          have mc : ∃ v, wr.cell? ⟨gv, j2, none⟩ = some v := ⟨_, (blk_cell HV2.out j2).trans (by rw [List.getElem?_toArray, List.getElem?_map, List.getElem?_eq_getElem (by rw [valJ_length _ _ (by omega)]; omega)]; rfl)⟩
          obtain ⟨v0, mc⟩ := mc
          have mz := blk_frozen HV2.out j2
          go_wp2_with (go_at_call 32; refine (run_Word.calls _ _ _ rfl).mono ?_; rintro e w' ⟨rfl, nd, rfl⟩)
          go_roundw
          case rel =>
            refine ⟨j2 + 1, by go_num, by omega, ⟨(HI.out.drewN _).setV HV2.out (by omega) _ _⟩, ⟨blk_put HV2.out j2 _ ?_⟩⟩
            rw [← valJ_set args j2 hlt2]
            simp [word]
          case measure => simp [intOf]; omega
        · have hje2 : j2 = args.length := by omega
          have hl : (args.map word).length = args.length := by simp
          have hv2 := HV2.out
          rw [hje2, valJ_end] at hv2
          have HC := Aside0.mk (run_call.all k nm g go gm gv A c mod (args.map word) (mem0 mem) (clampFuel fuel) args.length w wr res HI.out (by unfold clampFuel; omega) HR.out hv2 (by omega) H.out)
          rw [hl] at HC
          have gc : wr.cell? ⟨gm, 0, none⟩ = some (.pointer (some ⟨g, 0, none⟩)) := (blk_cell HI.out.p 0).trans rfl
          have HGO := Aside0.mk (show w.heap.size ≤ go by omega)
          have HK := run_kind H.out
          clear hv2 HV2 hgv hj2 hlt2 H
          obtain ⟨kind, v, told, mem2, steps⟩ := res
          by_cases hk1 : kind = 1
          · subst hk1
            go_wp2_with (go_at_call 35; refine HC.out.mono ?_; rintro e w' ⟨he, ⟨tv, hmc, htR⟩, hml, ho, hp, hb⟩; obtain rfl : e = .returned (.int .i64 v) := he; have HO := Aside0.mk ho; have HMC := Aside0.mk hmc; have HTR := Aside0.mk htR; have HP := Aside0.mk hp; have HBB := Aside0.mk hb; have o0 := blk_cell ho 0; have o1 := blk_cell ho 1; have o2 := blk_cell ho 2; have o3 := blk_cell ho 3; have o4 := blk_cell ho 4; have z0 := blk_frozen ho 0; have z1 := blk_frozen ho 1; have z2 := blk_frozen ho 2; have z3 := blk_frozen ho 3; have z4 := blk_frozen ho 4; clear ho hmc htR hp hb)
            have HO1 := blk_put (cs' := #[.int .i64 1, .int .i64 0, .slice none 0 0, .slice none 0 0, .int .i64 0]) HO.out 0 (.int .i64 1) rfl
            have HO2 := blk_put (cs' := #[.int .i64 1, .int .i64 v, .slice none 0 0, .slice none 0 0, .int .i64 0]) HO1 1 (.int .i64 v) rfl
            have HO3 := blk_put (cs' := #[.int .i64 1, .int .i64 v, .slice none 0 0, .slice none 0 0, .int .i64 0]) HO2 2 (.slice none 0 0) rfl
            have HO4 := blk_put (cs' := #[.int .i64 1, .int .i64 v, .slice none 0 0, .slice none 0 0, .int .i64 0]) HO3 3 (.slice none 0 0) rfl
            have HO5 := blk_put (cs' := #[.int .i64 1, .int .i64 v, .slice none 0 0, .slice none 0 0, .int .i64 0]) HO4 4 (.int .i64 0) rfl
            have m1 : g ≠ go := blk_ne HMC.out HO.out (by decide)
            have m2 : gm ≠ go := blk_ne HP.out HO.out (by decide)
            have HM5 := blk_far (blk_far (blk_far (blk_far (blk_far HMC.out m1 (.int .i64 1) (p := ⟨go, 0, none⟩)) m1 (.int .i64 v) (p := ⟨go, 1, none⟩)) m1 (.slice none 0 0) (p := ⟨go, 2, none⟩)) m1 (.slice none 0 0) (p := ⟨go, 3, none⟩)) m1 (.int .i64 0) (p := ⟨go, 4, none⟩)
            have HP5 := blk_far (blk_far (blk_far (blk_far (blk_far HP.out m2 (.int .i64 1) (p := ⟨go, 0, none⟩)) m2 (.int .i64 v) (p := ⟨go, 1, none⟩)) m2 (.slice none 0 0) (p := ⟨go, 2, none⟩)) m2 (.slice none 0 0) (p := ⟨go, 3, none⟩)) m2 (.int .i64 0) (p := ⟨go, 4, none⟩)
            have HT5 := Kd.R_set (Kd.R_set (Kd.R_set (Kd.R_set (Kd.R_set HTR.out HO.out (by decide) 0 (.int .i64 1)) HO1 (by decide) 1 (.int .i64 v)) HO2 (by decide) 2 (.slice none 0 0)) HO3 (by decide) 3 (.slice none 0 0)) HO4 (by decide) 4 (.int .i64 0)
            have HB5 := below_set (below_set (below_set (below_set (below_set HBB.out HGO.out (j := 0) (v := .int .i64 1)) HGO.out (j := 1) (v := .int .i64 v)) HGO.out (j := 2) (v := .slice none 0 0)) HGO.out (j := 3) (v := .slice none 0 0)) HGO.out (j := 4) (v := .int .i64 0)
            refine leaves_cons (f := 33) (args := #[.pointer (some ⟨go, 0, none⟩), .pointer (some ⟨gm, 0, none⟩)]) (by simp) (by simp [go_sem]) ?_
            refine (run_defer.idle go gm g _ tv mem2 told (clampFuel fuel) steps 1 v _ _ _ w _ HP5 HM5 hml HT5 HO5 HB5 HGO.out).mono ?_
            rintro e u' w'' ⟨rfl, rfl, hd⟩
            exact run_leaves _ go w w'' 1 v told mem2 steps rfl hd
          · by_cases hk2 : kind = 2
            · subst hk2
              obtain rfl : v = 0 := by simpa using HK
              go_wp2_with (go_at_call 35; refine HC.out.mono ?_; rintro e w' ⟨he, ⟨tv, hmc, htR⟩, hml, ho, hp, hb⟩; obtain rfl : e = .panicked [{ v := trapV, recovered := false }] := he; have HO := Aside0.mk ho; have HMC := Aside0.mk hmc; have HTR := Aside0.mk htR; have HP := Aside0.mk hp; have HBB := Aside0.mk hb; clear ho hmc htR hp hb)
              refine leaves_cons (f := 33) (args := #[.pointer (some ⟨go, 0, none⟩), .pointer (some ⟨gm, 0, none⟩)]) (by simp) (by simp [go_sem]) ?_
              refine (run_defer.trap go gm g _ tv mem2 told (clampFuel fuel) steps 0 0 _ _ _ w _ HP.out HMC.out hml HTR.out HO.out HBB.out HGO.out).mono ?_
              rintro e u' w'' ⟨rfl, rfl, hd⟩
              exact run_leaves _ go w w'' 2 0 told mem2 steps rfl hd
            · obtain ⟨rfl, rfl⟩ : kind = 3 ∧ v = 0 := by simpa [hk1, hk2] using HK
              go_wp2_with (go_at_call 35; refine HC.out.mono ?_; rintro e w' ⟨he, ⟨tv, hmc, htR⟩, hml, ho, hp, hb⟩; obtain rfl : e = .panicked [{ v := outV, recovered := false }] := he; have HO := Aside0.mk ho; have HMC := Aside0.mk hmc; have HTR := Aside0.mk htR; have HP := Aside0.mk hp; have HBB := Aside0.mk hb; clear ho hmc htR hp hb)
              refine leaves_cons (f := 33) (args := #[.pointer (some ⟨go, 0, none⟩), .pointer (some ⟨gm, 0, none⟩)]) (by simp) (by simp [go_sem]) ?_
              refine (run_defer.out go gm g _ tv mem2 told (clampFuel fuel) steps 0 0 _ _ _ w _ HP.out HMC.out hml HTR.out HO.out HBB.out HGO.out).mono ?_
              rintro e u' w'' ⟨rfl, rfl, hd⟩
              exact run_leaves _ go w w'' 3 0 told mem2 steps rfl hd
end Go.Proofs.YtoilapjkgligfaaDoor.P
