import Derived.Test.YtoilapjkgligfaaDoorKP
import Derived.Test.YtoilapjkgligfaaDoorKa2
namespace Go.Proofs.YtoilapjkgligfaaDoor.P
set_option linter.unusedVariables false
open Go.RowKit Go.Proofs.YtoilapjkgligfaaDoorW.PrintWords Go.Proofs.YtoilapjkgligfaaDoorW.PrintLast Go.Proofs.YtoilapjkgligfaaDoorW.PrintMore

def badOne (s : ByteArray) (x0 : Int) (x4 : ByteArray) (x5 : List Int) (lastx last : Bool) : Bool :=
  (s.toList.isEmpty) || (lastx != last) || (!(x0 == 11) && (!(x4.toList.isEmpty) || decide (0 < x5.length)))
def badNone (s : ByteArray) (l : List Int) (k : Nat) : Bool := (bt s k == 32) && !(rd l k == 0)
def badReg (s : ByteArray) (regs : Int) (l : List Int) (k : Nat) : Bool := (bt s k == 114) && oddB regs (rd l k)
def badNum (s : ByteArray) (l : List Int) (k : Nat) : Bool := (bt s k == 110) && (decide (rd l k < 0) || decide (65536 ≤ rd l k))
def anyTo (f : Nat → Bool) : Nat → Bool
  | 0 => false
  | k + 1 => anyTo f k || f k

def ir_one.f (_k : Nat) (_f0 : ByteArray) (_f1 f2 : Int) (f3 : List (List (S32))) (x0 x1 x2 x3 : Int) (x4 : ByteArray) (x5 : List Int) (last : Bool) : Option Int :=
  (ir_shape.f x0).bind fun s => (ir_Last.f x0).bind fun lastx =>
  if badOne s x0 x4 x5 lastx last = true then some 72 else if s.size < 3 then none else
  if anyTo (badNone s [x1, x2, x3]) 3 = true then some 72 else
  if anyTo (badReg s f2 [x1, x2, x3]) 3 = true then some 73 else
  if x5.any (oddB f2) = true then some 73 else
  if anyTo (badNum s [x1, x2, x3]) 3 = true then some 81 else
  (ir_Targets.f x0 x1 x2 x3 x4 x5).bind fun t =>
  if t.any (oddB (f3.length : Int)) = true then some 74 else
  if x0 = 11 then (ir_Name.f x4).bind fun nm => if nm = false then some 70 else if 4 < x5.length then some 192 else some 0
  else if 4 < x5.length then some 192 else some 0

structure OneW (w : World) (F X : Array Value) (x1 x2 x3 : Int) (w1 : World) : Prop where mk ::
  f : w1.heap[w.heap.size]? = some (.cells F 24 (0, 0))
  x : w1.heap[w.heap.size + 1]? = some (.cells X 32 (0, 0))
  b : Below w.heap.size w w1
structure OneV (w : World) (F X : Array Value) (x1 x2 x3 : Int) (g : Nat) (w1 : World) : Prop where mk ::
  o : OneW w F X x1 x2 x3 w1
  v : w1.heap[g]? = some (.cells #[.int .i64 x1, .int .i64 x2, .int .i64 x3] 3 (0, 0))
theorem bt_nat (s : ByteArray) (k : Nat) : ∀ h : k < s.size, ((s[k]'h).toNat : Int) = bt s (k : Int) := fun h => by simpa using bt_at s (k : Int) (by simpa using h)
theorem rd_mem (l : List Int) (k : Nat) (h : k < l.length) : rd l k ∈ l := by
  rw [rd, Int.toNat_natCast, List.getD_eq_getElem?_getD, List.getElem?_eq_getElem h]
  exact List.getElem_mem h
theorem rd_any_false (l : List Int) {p : Int → Bool} (h : ∀ j : Nat, j < l.length → p (rd l j) = false) : l.any p = false := by
  rw [List.any_eq_false]
  intro x hx
  obtain ⟨j, hj, rfl⟩ := List.getElem_of_mem hx
  have := h j hj
  rw [rd, Int.toNat_natCast, List.getD_eq_getElem?_getD, List.getElem?_eq_getElem hj] at this
  simpa using this
theorem anyTo_mono {f : Nat → Bool} {a b : Nat} (h : anyTo f a = true) (hab : a ≤ b) : anyTo f b = true := by
  induction b with
  | zero => obtain rfl : a = 0 := by omega
            exact h
  | succ b ih =>
    rcases Nat.lt_or_ge a (b + 1) with h1 | h1
    · simp [anyTo, ih (by omega)]
    · obtain rfl : a = b + 1 := by omega
      exact h
theorem anyTo_at {f : Nat → Bool} {k n : Nat} (h : f k = true) (hk : k < n) : anyTo f n = true := anyTo_mono (a := k + 1) (by simp [anyTo, h]) hk
theorem OneW.below {w : World} {F X : Array Value} {x1 x2 x3 : Int} {w1 w2 : World} (h : OneW w F X x1 x2 x3 w1) (hb : Below w1.heap.size w1 w2) : OneW w F X x1 x2 x3 w2 := ⟨blk_below h.f hb, blk_below h.x hb, below_step h.b hb⟩
theorem OneV.below {w : World} {F X : Array Value} {x1 x2 x3 : Int} {g : Nat} {w1 w2 : World} (h : OneV w F X x1 x2 x3 g w1) (hb : Below w1.heap.size w1 w2) : OneV w F X x1 x2 x3 g w2 := ⟨h.o.below hb, blk_below h.v hb⟩
theorem OneW.drewN {w : World} {F X : Array Value} {x1 x2 x3 : Int} {w1 : World} (h : OneW w F X x1 x2 x3 w1) (n : Nat) : OneW w F X x1 x2 x3 (w1.drewN n) := h.below (pw_below_drewN (Below.refl _ _) n)
theorem OneV.drewN {w : World} {F X : Array Value} {x1 x2 x3 : Int} {g : Nat} {w1 : World} (h : OneV w F X x1 x2 x3 g w1) (n : Nat) : OneV w F X x1 x2 x3 g (w1.drewN n) := h.below (pw_below_drewN (Below.refl _ _) n)
theorem OneV.cell {w : World} {F X : Array Value} {x1 x2 x3 : Int} {g : Nat} {w1 : World} (h : OneV w F X x1 x2 x3 g w1) (k : Nat) (hk : k < 3) : w1.cell? ⟨g, k, none⟩ = some (.int .i64 (rd [x1, x2, x3] k)) := by
  match k, hk with
  | 0, _ => exact (blk_cell h.v 0).trans rfl
  | 1, _ => exact (blk_cell h.v 1).trans rfl
  | 2, _ => exact (blk_cell h.v 2).trans rfl

set_option maxHeartbeats 4000000 in
set_option maxRecDepth 100000 in
theorem ir_one.calls (k : Nat) (f0 : ByteArray) (f1 f2 : Int) (F3 : Option Addr) (fc3 : Nat) (f3 : List (List (S32))) (x0 x1 x2 x3 : Int) (x4 : ByteArray) (X5 : Option Addr) (c5 : Nat) (x5 : List Int) (last : Bool) (r : Int) (w : World) (hGS : GS w)
    (hrF : Kd.C (Kd.slice 32 k32) w F3 f3.length f3) (hcF : f3.length ≤ fc3)
    (hr5 : Kd.C (Kd.int .i64) w X5 x5.length x5) (hc5 : x5.length ≤ c5) (h : ir_one.f k f0 f1 f2 f3 x0 x1 x2 x3 x4 x5 last = some r) :
    Calls Tryd.prog 64 #[.agg #[.string f0, .int .i64 f1, .int .i64 f2, .slice F3 f3.length fc3], .agg #[.int .i64 x0, .int .i64 x1, .int .i64 x2, .int .i64 x3, .string x4, .slice X5 x5.length c5], .bool last] w fun e w' => e = .returned (.int .i64 r) ∧ Below w.heap.size w w' := by
  have hu32 := Tryd.underlying32
  have hu24 := Tryd.underlying24
  have HG := Aside0.mk hGS
  have HRF := Aside0.mk hrF
  have HR5 := Aside0.mk hr5
  have HC5 := Aside0.mk hc5
  replace h := Option.bind_eq_some_iff.mp h
  obtain ⟨s, hs, h⟩ := h
  replace h := Option.bind_eq_some_iff.mp h
  obtain ⟨lastx, hl, h⟩ := h
  have HS := Aside0.mk hs
  have HL := Aside0.mk hl
  have H := Aside0.mk h
  clear hGS hrF hr5 hs hl h hc5
  have HW := Aside0.mk (show OneW w #[.string f0, .int .i64 f1, .int .i64 f2, .slice F3 f3.length fc3] #[.int .i64 x0, .int .i64 x1, .int .i64 x2, .int .i64 x3, .string x4, .slice X5 x5.length c5] x1 x2 x3 ((w.alloc (.cells #[.string f0, .int .i64 f1, .int .i64 f2, .slice F3 f3.length fc3] 24 (0, 0))).alloc (.cells #[.int .i64 x0, .int .i64 x1, .int .i64 x2, .int .i64 x3, .string x4, .slice X5 x5.length c5] 32 (0, 0))) from
    ⟨blk_alloc (blk_new w _) _, by have := blk_new (w.alloc (.cells #[.string f0, .int .i64 f1, .int .i64 f2, .slice F3 f3.length fc3] 24 (0, 0))) (.cells #[.int .i64 x0, .int .i64 x1, .int .i64 x2, .int .i64 x3, .string x4, .slice X5 x5.length c5] 32 (0, 0)); simpa [World.size_alloc] using this, below_alloc (below_alloc (Below.refl w.heap.size w) _) _⟩)
  go_enter Tryd.func64, Tryd.ntmps64
  go_upto_region 2 with (go_at_call 107; refine (ir_shape.calls x0 s _ (HG.out.of_below HW.out.b) HS.out).mono ?_; rintro e w1 ⟨rfl, ⟨nd, rfl⟩⟩)
  go_cut [45] (fun v45 wc => v45 = .bool (badOne s x0 x4 x5 lastx last) ∧ Aside0 (OneW w #[.string f0, .int .i64 f1, .int .i64 f2, .slice F3 f3.length fc3] #[.int .i64 x0, .int .i64 x1, .int .i64 x2, .int .i64 x3, .string x4, .slice X5 x5.length c5] x1 x2 x3 wc))
  case first =>
    have HE := Aside0.mk (show badOne s x0 x4 x5 lastx last = ((s.toList.isEmpty) || (lastx != last) || (!(x0 == 11) && (!(x4.toList.isEmpty) || decide (0 < x5.length)))) from rfl)
    by_cases d0 : x0 = 11
    · have d1 : (x0 == 11) = true := by simpa using d0
      have d2 : (x0 != 11) = false := by simpa using d0
      clear d0
      go_wp2_with (go_at_call 108; refine (ir_Last.calls x0 lastx _ HL.out).mono ?_; rintro e w1 ⟨rfl, ⟨nd, rfl⟩⟩)
      all_goals
        go_meet
        case rel => exact ⟨by rw [HE.out]; simp [*], ⟨by repeat (first | exact HW.out | apply OneW.drewN)⟩⟩
    · have d1 : (x0 == 11) = false := by simpa using d0
      have d2 : (x0 != 11) = true := by simpa using d0
      clear d0
      go_wp2_with (go_at_call 108; refine (ir_Last.calls x0 lastx _ HL.out).mono ?_; rintro e w1 ⟨rfl, ⟨nd, rfl⟩⟩)
      all_goals
        go_meet
        case rel => exact ⟨by rw [HE.out]; simp [*], ⟨by repeat (first | exact HW.out | apply OneW.drewN)⟩⟩
  case rest =>
    clear HW
    obtain ⟨rfl, HW⟩ := hcut
    have h := H.out
    clear H
    cases hb1 : badOne s x0 x4 x5 lastx last with
    | true =>
      rw [hb1, if_pos rfl] at h
      obtain rfl := Option.some.inj h
      clear h hb1
      go_wp2
      go_ret
      exact ⟨rfl, HW.out.b⟩
    | false =>
      rw [hb1, if_neg (by simp)] at h
      clear hb1
      by_cases hsz : s.size < 3
      · rw [if_pos hsz] at h
        simp at h
      rw [if_neg hsz] at h
      have H := Aside0.mk h
      clear h
      have x0c := (blk_cell HW.out.x 0).trans rfl
      have x1c := (blk_cell HW.out.x 1).trans rfl
      have x2c := (blk_cell HW.out.x 2).trans rfl
      have x3c := (blk_cell HW.out.x 3).trans rfl
      have x4c := (blk_cell HW.out.x 4).trans rfl
      have x5c := (blk_cell HW.out.x 5).trans rfl
      go_wp2
      have HV := Aside0.mk (show OneV w #[.string f0, .int .i64 f1, .int .i64 f2, .slice F3 f3.length fc3] #[.int .i64 x0, .int .i64 x1, .int .i64 x2, .int .i64 x3, .string x4, .slice X5 x5.length c5] x1 x2 x3 wc.heap.size (wc.alloc (.cells #[.int .i64 x1, .int .i64 x2, .int .i64 x3] 3 (0, 0))) from ⟨HW.out.below (below_alloc (Below.refl _ _) _), blk_new _ _⟩)
      clear x0c x1c x2c x3c x4c x5c
      go_loopw [55] (fun v55 wr => ∃ k : Nat, v55 = .int .i64 k ∧ k ≤ 3 ∧ Aside0 (anyTo (badNone s [x1, x2, x3]) k = false) ∧ Aside0 (OneV w #[.string f0, .int .i64 f1, .int .i64 f2, .slice F3 f3.length fc3] #[.int .i64 x0, .int .i64 x1, .int .i64 x2, .int .i64 x3, .string x4, .slice X5 x5.length c5] x1 x2 x3 wc.heap.size wr)) (fun v55 _ => 3 - (intOf v55).toNat)
      case atStart => exact ⟨0, rfl, by omega, ⟨rfl⟩, HV⟩
      case round =>
        clear HV
        obtain ⟨k, rfl, hk, HN, HV⟩ := hrel
        by_cases hlt : k < 3
        · have hx := HV.out.cell k hlt
          have p1 : (0 : Int) ≤ (k : Int) := by omega
          have q1 : (k : Int) < (s.size : Int) := by omega
          have hbt := bt_nat s k
          by_cases e1 : bt s k = 32
          · have e2 : (bt s k == 32) = true := by simpa using e1
            clear e1
            by_cases e3 : rd [x1, x2, x3] k = 0
            · have e4 : (rd [x1, x2, x3] k == 0) = true := by simpa using e3
              have e5 : (rd [x1, x2, x3] k != 0) = false := by simpa using e3
              have HE := Aside0.mk (show badNone s [x1, x2, x3] k = false by simp [badNone, e3])
              clear e3
              go_wp2
              go_roundw
              case rel => exact ⟨k + 1, by go_num, by omega, ⟨by simp [anyTo, HN.out, HE.out]⟩, HV⟩
              case measure => simp [intOf]; omega
            · have e4 : (rd [x1, x2, x3] k == 0) = false := by simpa using e3
              have e5 : (rd [x1, x2, x3] k != 0) = true := by simpa using e3
              have HE := Aside0.mk (show badNone s [x1, x2, x3] k = true by simp [badNone, e2, e4])
              clear e3
              have h := H.out
              rw [if_pos (anyTo_at HE.out hlt)] at h
              obtain rfl := Option.some.inj h
              clear h H
              go_wp2
              go_ret
              exact ⟨rfl, HV.out.o.b⟩
          · have e2 : (bt s k == 32) = false := by simpa using e1
            have HE := Aside0.mk (show badNone s [x1, x2, x3] k = false by simp [badNone, e1])
            clear e1
            go_wp2
            go_roundw
            case rel => exact ⟨k + 1, by go_num, by omega, ⟨by simp [anyTo, HN.out, HE.out]⟩, HV⟩
            case measure => simp [intOf]; omega
        · have hk3 : k = 3 := by omega
          have HN3 := HN.out
          rw [hk3] at HN3
          clear hk3
          have h := H.out
          rw [if_neg (by rw [HN3]; simp)] at h
          clear HN3
          have H' := Aside0.mk h
          clear h H HN
          go_wp2
          go_loopw [72] (fun v72 wr => ∃ k : Nat, v72 = .int .i64 k ∧ k ≤ 3 ∧ Aside0 (anyTo (badReg s f2 [x1, x2, x3]) k = false) ∧ Aside0 (OneV w #[.string f0, .int .i64 f1, .int .i64 f2, .slice F3 f3.length fc3] #[.int .i64 x0, .int .i64 x1, .int .i64 x2, .int .i64 x3, .string x4, .slice X5 x5.length c5] x1 x2 x3 wc.heap.size wr)) (fun v72 _ => 3 - (intOf v72).toNat)
          case atStart => exact ⟨0, rfl, by omega, ⟨rfl⟩, HV⟩
          case round =>
            clear HV
            obtain ⟨k, rfl, hk, HN, HV⟩ := hrel
            by_cases hlt : k < 3
            · have hx := HV.out.cell k hlt
              have p1 : (0 : Int) ≤ (k : Int) := by omega
              have q1 : (k : Int) < (s.size : Int) := by omega
              have hbt := bt_nat s k
              by_cases e1 : bt s k = 114
              · have e2 : (bt s k == 114) = true := by simpa using e1
                clear e1
                cases e3 : oddB f2 (rd [x1, x2, x3] k) with
                | false =>
                  have HE := Aside0.mk (show badReg s f2 [x1, x2, x3] k = false by simp [badReg, e3])
                  have HO := Aside0.mk e3
                  clear e3
                  go_wp2_with (go_at_call 109; refine (ir_one_odd.calls (rd [x1, x2, x3] k) f1 f2 f0 _ _ _ HV.out.o.f).mono ?_; rintro e w' ⟨rfl, ⟨nd, rfl⟩⟩; rw [HO.out])
                  go_roundw
                  case rel => exact ⟨k + 1, by go_num, by omega, ⟨by simp [anyTo, HN.out, HE.out]⟩, ⟨HV.out.drewN _⟩⟩
                  case measure => simp [intOf]; omega
                | true =>
                  have HE := Aside0.mk (show badReg s f2 [x1, x2, x3] k = true by simp [badReg, e2, e3])
                  have HO := Aside0.mk e3
                  clear e3
                  have h := H'.out
                  rw [if_pos (anyTo_at HE.out hlt)] at h
                  obtain rfl := Option.some.inj h
                  clear h H'
                  go_wp2_with (go_at_call 109; refine (ir_one_odd.calls (rd [x1, x2, x3] k) f1 f2 f0 _ _ _ HV.out.o.f).mono ?_; rintro e w' ⟨rfl, ⟨nd, rfl⟩⟩; rw [HO.out])
                  go_ret
                  exact ⟨rfl, pw_below_drewN HV.out.o.b _⟩
              · have e2 : (bt s k == 114) = false := by simpa using e1
                have HE := Aside0.mk (show badReg s f2 [x1, x2, x3] k = false by simp [badReg, e1])
                clear e1
                go_wp2
                go_roundw
                case rel => exact ⟨k + 1, by go_num, by omega, ⟨by simp [anyTo, HN.out, HE.out]⟩, HV⟩
                case measure => simp [intOf]; omega
            · have hk3 : k = 3 := by omega
              have HN3 := HN.out
              rw [hk3] at HN3
              clear hk3
              have h := H'.out
              rw [if_neg (by rw [HN3]; simp)] at h
              clear HN3
              have H := Aside0.mk h
              clear h H' HN
              have x5c := (blk_cell HV.out.o.x 5).trans rfl
              cases hca : x5.any (oddB f2) with
              | true =>
                have h := H.out
                rw [if_pos hca] at h
                obtain rfl := Option.some.inj h
                have HCA := Aside0.mk hca
                clear h H hca
                go_wp2_with (go_at_call 110; refine (slices_ContainsFunc.odd_calls f1 f2 f0 _ _ _ _ x5 _ (Kd.C_below HR5.out HV.out.o.b) HV.out.o.f).mono ?_; rintro e w' ⟨rfl, ⟨nd, rfl⟩⟩; rw [HCA.out])
                go_ret
                exact ⟨rfl, pw_below_drewN HV.out.o.b _⟩
              | false =>
                have h := H.out
                rw [if_neg (by rw [hca]; simp)] at h
                have H := Aside0.mk h
                have HCA := Aside0.mk hca
                clear h hca
                go_wp2_with (go_at_call 110; refine (slices_ContainsFunc.odd_calls f1 f2 f0 _ _ _ _ x5 _ (Kd.C_below HR5.out HV.out.o.b) HV.out.o.f).mono ?_; rintro e w' ⟨rfl, ⟨nd, rfl⟩⟩; rw [HCA.out])
                clear x5c
                go_loopw [93] (fun v93 wr => ∃ k : Nat, v93 = .int .i64 k ∧ k ≤ 3 ∧ Aside0 (anyTo (badNum s [x1, x2, x3]) k = false) ∧ Aside0 (OneV w #[.string f0, .int .i64 f1, .int .i64 f2, .slice F3 f3.length fc3] #[.int .i64 x0, .int .i64 x1, .int .i64 x2, .int .i64 x3, .string x4, .slice X5 x5.length c5] x1 x2 x3 wc.heap.size wr)) (fun v93 _ => 3 - (intOf v93).toNat)
                case atStart => exact ⟨0, rfl, by omega, ⟨rfl⟩, ⟨HV.out.drewN _⟩⟩
                case round =>
                  clear HV
                  obtain ⟨k, rfl, hk, HN, HV⟩ := hrel
                  by_cases hlt : k < 3
                  · have hx := HV.out.cell k hlt
                    have p1 : (0 : Int) ≤ (k : Int) := by omega
                    have q1 : (k : Int) < (s.size : Int) := by omega
                    have hbt := bt_nat s k
                    by_cases e1 : bt s k = 110
                    · have e2 : (bt s k == 110) = true := by simpa using e1
                      clear e1
                      by_cases e3 : rd [x1, x2, x3] k < 0
                      · have e4 : decide (rd [x1, x2, x3] k < 0) = true := decide_eq_true e3
                        have HE := Aside0.mk (show badNum s [x1, x2, x3] k = true by simp [badNum, e2, e4])
                        clear e3
                        have h := H.out
                        rw [if_pos (anyTo_at HE.out hlt)] at h
                        obtain rfl := Option.some.inj h
                        clear h H
                        go_wp2
                        go_ret
                        exact ⟨rfl, HV.out.o.b⟩
                      · have e4 : decide (rd [x1, x2, x3] k < 0) = false := decide_eq_false e3
                        clear e3
                        by_cases e5 : 65536 ≤ rd [x1, x2, x3] k
                        · have e6 : decide (65536 ≤ rd [x1, x2, x3] k) = true := decide_eq_true e5
                          have HE := Aside0.mk (show badNum s [x1, x2, x3] k = true by simp [badNum, e2, e6])
                          clear e5
                          have h := H.out
                          rw [if_pos (anyTo_at HE.out hlt)] at h
                          obtain rfl := Option.some.inj h
                          clear h H
                          go_wp2
                          go_ret
                          exact ⟨rfl, HV.out.o.b⟩
                        · have e6 : decide (65536 ≤ rd [x1, x2, x3] k) = false := decide_eq_false e5
                          have HE := Aside0.mk (show badNum s [x1, x2, x3] k = false by simp [badNum, e4, e6])
                          clear e5
                          go_wp2
                          go_roundw
                          case rel => exact ⟨k + 1, by go_num, by omega, ⟨by simp [anyTo, HN.out, HE.out]⟩, HV⟩
                          case measure => simp [intOf]; omega
                    · have e2 : (bt s k == 110) = false := by simpa using e1
                      have HE := Aside0.mk (show badNum s [x1, x2, x3] k = false by simp [badNum, e1])
                      clear e1
                      go_wp2
                      go_roundw
                      case rel => exact ⟨k + 1, by go_num, by omega, ⟨by simp [anyTo, HN.out, HE.out]⟩, HV⟩
                      case measure => simp [intOf]; omega
                  · have hk3 : k = 3 := by omega
                    have HN3 := HN.out
                    rw [hk3] at HN3
                    clear hk3
                    have h := H.out
                    rw [if_neg (by rw [HN3]; simp)] at h
                    clear HN3
                    replace h := Option.bind_eq_some_iff.mp h
                    obtain ⟨t, ht, h⟩ := h
                    have HT := Aside0.mk ht
                    have H' := Aside0.mk h
                    clear h ht H HN
                    have x0c := (blk_cell HV.out.o.x 0).trans rfl
                    have x1c := (blk_cell HV.out.o.x 1).trans rfl
                    have x2c := (blk_cell HV.out.o.x 2).trans rfl
                    have x3c := (blk_cell HV.out.o.x 3).trans rfl
                    have x4c := (blk_cell HV.out.o.x 4).trans rfl
                    have x5c := (blk_cell HV.out.o.x 5).trans rfl
                    go_wp2_with (go_at_call 111; refine (ir_Targets.calls x0 x1 x2 x3 x4 _ _ x5 t _ (Kd.C_below HR5.out HV.out.o.b) HC5.out HT.out).mono ?_; rintro e w2 ⟨v0, rfl, hv, hb⟩; have HV2 := Aside0.mk (HV.out.below hb); obtain ⟨A2, cc2, rfl, hl2, hr2⟩ := Kd.R_reads hv; have htl := hr2.2.1; have HR2 := Aside0.mk hr2; clear hr2 hv hb hl2 x0c x1c x2c x3c x4c x5c)
                    obtain ⟨wt, hwt⟩ : ∃ wt : World, wt = w2 := ⟨w2, rfl⟩
                    subst hwt
                    go_loopw [114] (fun v114 wr => ∃ k : Nat, v114 = .int .i64 k ∧ k ≤ t.length ∧ Aside0 (∀ j : Nat, j < k → oddB (f3.length : Int) (rd t j) = false) ∧ Aside0 (OneV w #[.string f0, .int .i64 f1, .int .i64 f2, .slice F3 f3.length fc3] #[.int .i64 x0, .int .i64 x1, .int .i64 x2, .int .i64 x3, .string x4, .slice X5 x5.length c5] x1 x2 x3 wc.heap.size wr) ∧ Aside0 (Below wt.heap.size wt wr)) (fun v114 _ => t.length - (intOf v114).toNat)
                    case atStart => exact ⟨0, rfl, by omega, ⟨fun j hj => by omega⟩, HV2, ⟨Below.refl _ _⟩⟩
                    case round =>
                      clear HV HV2
                      obtain ⟨k, rfl, hk, HN, HV, HBt⟩ := hrel
                      by_cases hlt : k < t.length
                      · obtain ⟨ad, e, hx⟩ := Kd.at_int HR2.out k (by omega) (by omega)
                        cases e
                        rw [Int.toNat_natCast] at hx
                        replace hx := (HBt.out.cell (World.block_lt_of_cell? wt _ hx)).trans hx
                        have f3c := (blk_cell HV.out.o.f 3).trans rfl
                        have HE := Aside0.mk (show oddB (f3.length : Int) (rd t k) = (decide (rd t k < 0) || decide ((f3.length : Int) ≤ rd t k)) from rfl)
                        by_cases e3 : rd t k < 0
                        · have e4 : decide (rd t k < 0) = true := decide_eq_true e3
                          clear e3
                          have h := H'.out
                          rw [if_pos (List.any_eq_true.2 ⟨rd t k, rd_mem t k hlt, by rw [HE.out]; simp [e4]⟩)] at h
                          obtain rfl := Option.some.inj h
                          clear h H'
                          go_wp2
                          go_ret
                          exact ⟨rfl, HV.out.o.b⟩
                        · have e4 : decide (rd t k < 0) = false := decide_eq_false e3
                          clear e3
                          by_cases e5 : (f3.length : Int) ≤ rd t k
                          · have e6 : decide ((f3.length : Int) ≤ rd t k) = true := decide_eq_true e5
                            clear e5
                            have h := H'.out
                            rw [if_pos (List.any_eq_true.2 ⟨rd t k, rd_mem t k hlt, by rw [HE.out]; simp [e6]⟩)] at h
                            obtain rfl := Option.some.inj h
                            clear h H'
                            go_wp2
                            go_ret
                            exact ⟨rfl, HV.out.o.b⟩
                          · have e6 : decide ((f3.length : Int) ≤ rd t k) = false := decide_eq_false e5
                            clear e5
                            go_wp2
                            go_roundw
                            case rel => exact ⟨k + 1, by go_num, by omega, ⟨fun j hj => by
                              rcases Nat.lt_or_ge j k with h | h
                              · exact HN.out j h
                              · obtain rfl : j = k := by omega
                                rw [HE.out, e4, e6]; rfl⟩, HV, HBt⟩
                            case measure => simp [intOf]; omega
                      · have h := H'.out
                        rw [if_neg (by rw [rd_any_false t (by intro j hj; exact HN.out j (by omega))]; simp)] at h
                        have H := Aside0.mk h
                        clear h H' HN
                        have x0c := (blk_cell HV.out.o.x 0).trans rfl
                        have x4c := (blk_cell HV.out.o.x 4).trans rfl
                        have x5c := (blk_cell HV.out.o.x 5).trans rfl
                        by_cases c0 : x0 = 11
                        · have h := H.out
                          rw [if_pos c0] at h
                          replace h := Option.bind_eq_some_iff.mp h
                          obtain ⟨nm, hnm, h⟩ := h
                          have HNM := Aside0.mk hnm
                          have c1 : (x0 == 11) = true := by simpa using c0
                          clear c0 hnm H
                          cases nm with
                          | false =>
                            rw [if_pos rfl] at h
                            obtain rfl := Option.some.inj h
                            clear h
                            go_wp2_with (go_at_call 63; refine (ir_Name.calls x4 false _ HNM.out).mono ?_; rintro e w3 ⟨rfl, hb⟩; have HV3 := Aside0.mk (HV.out.below hb); clear hb)
                            go_ret
                            exact ⟨rfl, HV3.out.o.b⟩
                          | true =>
                            rw [if_neg (by simp)] at h
                            have HH := Aside0.mk h
                            clear h
                            by_cases c4 : 4 < x5.length
                            · have h := HH.out
                              rw [if_pos c4] at h
                              obtain rfl := Option.some.inj h
                              clear h HH
                              go_wp2_with (go_at_call 63; refine (ir_Name.calls x4 true _ HNM.out).mono ?_; rintro e w3 ⟨rfl, hb⟩; have HV3 := Aside0.mk (HV.out.below hb); clear hb; clear x0c x4c x5c; have x5c := (blk_cell HV3.out.o.x 5).trans rfl)
                              go_ret
                              exact ⟨rfl, HV3.out.o.b⟩
                            · have h := HH.out
                              rw [if_neg c4] at h
                              obtain rfl := Option.some.inj h
                              clear h HH
                              go_wp2_with (go_at_call 63; refine (ir_Name.calls x4 true _ HNM.out).mono ?_; rintro e w3 ⟨rfl, hb⟩; have HV3 := Aside0.mk (HV.out.below hb); clear hb; clear x0c x4c x5c; have x5c := (blk_cell HV3.out.o.x 5).trans rfl)
                              go_ret
                              exact ⟨rfl, HV3.out.o.b⟩
                        · have h := H.out
                          rw [if_neg c0] at h
                          have HH := Aside0.mk h
                          have c1 : (x0 == 11) = false := by simpa using c0
                          clear c0 H h
                          by_cases c4 : 4 < x5.length
                          · have h := HH.out
                            rw [if_pos c4] at h
                            obtain rfl := Option.some.inj h
                            clear h HH
                            go_wp2
                            go_ret
                            exact ⟨rfl, HV.out.o.b⟩
                          · have h := HH.out
                            rw [if_neg c4] at h
                            obtain rfl := Option.some.inj h
                            clear h HH
                            go_wp2
                            go_ret
                            exact ⟨rfl, HV.out.o.b⟩

end Go.Proofs.YtoilapjkgligfaaDoor.P
