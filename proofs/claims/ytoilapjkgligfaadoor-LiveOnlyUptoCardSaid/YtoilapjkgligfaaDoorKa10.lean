import Derived.Test.YtoilapjkgligfaaDoorKP
import Derived.Test.YtoilapjkgligfaaDoorKa0
import Derived.Test.YtoilapjkgligfaaDoorKGLive
namespace Go.Proofs.YtoilapjkgligfaaDoor.P
set_option linter.unusedVariables false
open Go.RowKit Go.Proofs.YtoilapjkgligfaaDoorW.PrintWords Go.Proofs.YtoilapjkgligfaaDoorW.PrintLast Go.Proofs.YtoilapjkgligfaaDoorW.PrintMore

def firstL (value p r : Int) : List S32 := (List.range (r - p).toNat).map fun (i : Nat) => ⟨1, p + (i : Int), value, 0, ByteArray.empty, []⟩
def shiftI (x : S32) : S32 := if x.f0 = 12 then { x with f2 := x.f2 + 1 } else if x.f0 = 13 then { x with f1 := x.f1 + 1, f3 := x.f3 + 1 } else x
def jumpI : S32 := ⟨12, 0, 1, 0, ByteArray.empty, []⟩
def madeL (value p r : Int) (l : List (List S32)) : List (List S32) := (firstL value p r ++ [jumpI]) :: l.map (·.map shiftI)
def agreeR (params : Int) (nargs : Int) (n : Int) (a b : RunR) : Bool :=
  if nargs ≠ params then a.1 == 2 && b.1 == 2 else a.1 == b.1 && a.2.1 == b.2.1 && a.2.2.1 == b.2.2.1 && a.2.2.2.1 == b.2.2.2.1 && b.2.2.2.2 == a.2.2.2.2 + n
end Go.Proofs.YtoilapjkgligfaaDoor.P
namespace Go.Proofs.YtoilapjkgligfaaDoor.P
set_option linter.unusedVariables false
open Go.RowKit Go.Proofs.YtoilapjkgligfaaDoorW.PrintWords Go.Proofs.YtoilapjkgligfaaDoorW.PrintLast Go.Proofs.YtoilapjkgligfaaDoorW.PrintMore

structure LiveW (w : World) (gg : Nat) (nm : ByteArray) (p r : Int) (l : Blocks) (A : Option Addr) (c : Nat) (Ag : Option Addr) (cg : Nat) (gl : Blocks) (wr : World) : Prop where mk ::
  R : Kd.R (Kd.slice 32 (Kd.fixed k32 w)) 30 wr w.heap.size (fun _ => True) (.slice Ag gl.length cg) gl
  g : wr.heap[gg]? = some (.cells #[.string nm, .int .i64 p, .int .i64 r, .slice Ag gl.length cg] 24 (0, 0))
  f : wr.heap[w.heap.size]? = some (.cells #[.string nm, .int .i64 p, .int .i64 r, .slice A l.length c] 24 (0, 0))
  b : Below w.heap.size w wr
section
variable {w : World} {gg : Nat} {nm : ByteArray} {p r : Int} {l : Blocks} {A : Option Addr} {c : Nat} {Ag : Option Addr} {cg : Nat} {gl : Blocks} {wr w2 : World}
theorem LiveW.below (h : LiveW w gg nm p r l A c Ag cg gl wr) (hb : Below wr.heap.size wr w2) : LiveW w gg nm p r l A c Ag cg gl w2 :=
  ⟨Kd.R_below h.R hb, blk_below h.g hb, blk_below h.f hb, below_step h.b hb⟩
end
theorem kd_types (w : World) : ∀ q, q ∈ 30 :: (Kd.slice 32 (Kd.fixed k32 w)).E → q ≠ 24 := fun q hq e => by
  subst e
  revert hq
  show ¬ (24 ∈ ([30, 32] : List Nat))
  decide
theorem LiveW.put {w wr : World} {gg : Nat} {nm : ByteArray} {p r : Int} {l : Blocks} {A : Option Addr} {c : Nat} {Ag : Option Addr} {cg : Nat} {gl : Blocks} {v : Value}
    (hR : Kd.R (Kd.slice 32 (Kd.fixed k32 w)) 30 wr w.heap.size (fun _ => True) (.slice Ag gl.length cg) gl) (hg : wr.heap[gg]? = some (.cells #[.string nm, .int .i64 p, .int .i64 r, v] 24 (0, 0)))
    (hf : wr.heap[w.heap.size]? = some (.cells #[.string nm, .int .i64 p, .int .i64 r, .slice A l.length c] 24 (0, 0))) (hb : Below w.heap.size w wr) (hgg : w.heap.size < gg) : LiveW w gg nm p r l A c Ag cg gl (wr.setCell ⟨gg, 3, none⟩ (.slice Ag gl.length cg)) :=
  ⟨Kd.R_set hR hg (kd_types w) _ _, blk_put hg 3 _ rfl, blk_far hf (fun e => by have : w.heap.size = gg := e; omega) _, below_set hb (Nat.le_of_lt hgg)⟩
theorem take_rdT (row : List S32) (k : Nat) (h : k < row.length) : row.take (k + 1) = row.take k ++ [rd_T32 row k] := by
  rw [List.take_add_one, List.getElem?_eq_getElem h]
  simp [rd_T32, List.getD, List.getElem?_eq_getElem h]
theorem take_rdL (l : Blocks) (k : Nat) (h : k < l.length) : l.take (k + 1) = l.take k ++ [rd_LT32 l k] := by
  rw [List.take_add_one, List.getElem?_eq_getElem h]
  simp [rd_LT32, List.getD, List.getElem?_eq_getElem h]
theorem shiftI_12 {x : S32} (h : x.f0 = 12) : shiftI x = ⟨x.f0, x.f1, x.f2 + 1, x.f3, x.f4, x.f5⟩ := by simp [shiftI, h]
theorem shiftI_13 {x : S32} (h : x.f0 = 13) : shiftI x = ⟨x.f0, x.f1 + 1, x.f2, x.f3 + 1, x.f4, x.f5⟩ := by simp [shiftI, h]
theorem shiftI_no {x : S32} (h : x.f0 ≠ 12) (h' : x.f0 ≠ 13) : shiftI x = x := by simp [shiftI, h, h']
theorem C_unfix {α : Type} {d : Kd α} {w w' : World} {A : Option Addr} {n : Nat} {xs : List α} (hb : Below w.heap.size w w') (h : (Kd.fixed d w).C w' A n xs) : d.C w' A n xs :=
  ReadsRow.imp_ h (Below.refl _ _) (fun _ _ hp => d.K_below hb hp)
theorem C_unfix_slice {α : Type} {d : Kd α} {e : Nat} {w w' : World} {A : Option Addr} {n : Nat} {xs : List (List α)} (hb : Below w.heap.size w w') (h : (Kd.slice e (Kd.fixed d w)).C w' A n xs) : (Kd.slice e d).C w' A n xs :=
  ReadsRow.imp_ h (Below.refl _ _) (fun _ _ hp => by obtain ⟨A', c', e', hl, hr⟩ := hp; exact ⟨A', c', e', hl, C_unfix hb hr⟩)
structure Goals (l : Blocks) : Prop where mk ::
  n : l.length ≤ 100000
  m : ∀ i : Nat, (rd_LT32 l i).length ≤ 100000
  t : ∀ i k : Nat, i < l.length → k < (rd_LT32 l i).length → ((rd_T32 (rd_LT32 l i) k).f0 = 12 → 0 ≤ (rd_T32 (rd_LT32 l i) k).f2 ∧ (rd_T32 (rd_LT32 l i) k).f2 ≤ 100000) ∧ ((rd_T32 (rd_LT32 l i) k).f0 = 13 → (0 ≤ (rd_T32 (rd_LT32 l i) k).f1 ∧ (rd_T32 (rd_LT32 l i) k).f1 ≤ 100000) ∧ 0 ≤ (rd_T32 (rd_LT32 l i) k).f3 ∧ (rd_T32 (rd_LT32 l i) k).f3 ≤ 100000)
theorem C_one {w w' : World} {base e : Nat} {ok : Nat → Prop} {A : Option Addr} {c : Nat} {x : S24} (hb : Below w.heap.size w w') (h : Kd.R (Kd.fixed k24 w) e w' base ok (.slice A 1 c) [x]) : Kd.C k24 w' A ([x] : List S24).length [x] := by
  obtain ⟨A', c', he, _, hC⟩ := Kd.R_reads h
  injection he with e1 _ _
  subst e1
  exact C_unfix hb hC
theorem five_set {w : World} {g t : Nat} {a0 a1 a2 a3 a4 : Value} (h : w.heap[g]? = some (.cells #[a0, a1, a2, a3, a4] t (0, 0))) (b0 b1 b2 b3 b4 : Value) :
    (((((w.setCell ⟨g, 0, none⟩ b0).setCell ⟨g, 1, none⟩ b1).setCell ⟨g, 2, none⟩ b2).setCell ⟨g, 3, none⟩ b3).setCell ⟨g, 4, none⟩ b4).heap[g]? = some (.cells #[b0, b1, b2, b3, b4] t (0, 0)) ∧
    (∀ {e base : Nat} {ok : Nat → Prop} {v : Value} {xs : List Int}, Kd.R (Kd.int .i64) e w base ok v xs → e ≠ t → Kd.R (Kd.int .i64) e (((((w.setCell ⟨g, 0, none⟩ b0).setCell ⟨g, 1, none⟩ b1).setCell ⟨g, 2, none⟩ b2).setCell ⟨g, 3, none⟩ b3).setCell ⟨g, 4, none⟩ b4) base ok v xs) ∧
    (∀ {w0 : World}, Below w0.heap.size w0 w → w0.heap.size ≤ g → Below w0.heap.size w0 (((((w.setCell ⟨g, 0, none⟩ b0).setCell ⟨g, 1, none⟩ b1).setCell ⟨g, 2, none⟩ b2).setCell ⟨g, 3, none⟩ b3).setCell ⟨g, 4, none⟩ b4)) := by
  have h0 := blk_put (cs' := #[b0, a1, a2, a3, a4]) h 0 b0 rfl
  have h1 := blk_put (cs' := #[b0, b1, a2, a3, a4]) h0 1 b1 rfl
  have h2 := blk_put (cs' := #[b0, b1, b2, a3, a4]) h1 2 b2 rfl
  have h3 := blk_put (cs' := #[b0, b1, b2, b3, a4]) h2 3 b3 rfl
  have h4 := blk_put (cs' := #[b0, b1, b2, b3, b4]) h3 4 b4 rfl
  refine ⟨h4, fun {e base ok v xs} hr ht => ?_, fun hb hg => below_set (below_set (below_set (below_set (below_set hb hg) hg) hg) hg) hg⟩
  have ht' : ∀ q, q ∈ e :: (Kd.int .i64).E → q ≠ t := fun q hq => by
    rcases List.mem_cons.1 hq with rfl | hq
    · exact ht
    · cases hq
  exact Kd.R_set (Kd.R_set (Kd.R_set (Kd.R_set (Kd.R_set hr h ht' _ _) h0 ht' _ _) h1 ht' _ _) h2 ht' _ _) h3 ht' _ _
theorem R_rd {α : Type} {d : Kd α} {e base c : Nat} {w : World} {ok : Nat → Prop} {A : Option Addr} {xs : List α} (h : d.R e w base ok (.slice A xs.length c) xs) : xs.length ≤ c ∧ d.C w A xs.length xs := by
  obtain ⟨A', c', he, hl, hC⟩ := Kd.R_reads h
  injection he with e1 _ e3
  subst e1 e3
  exact ⟨hl, hC⟩
def LiveAgree (p : Int) (nargs n : Nat) (ra rb : RunR) : Prop :=
  ((nargs : Int) ≠ p → ra.1 = 2 ∧ rb.1 = 2) ∧ ((nargs : Int) = p → rb = (ra.1, ra.2.1, ra.2.2.1, ra.2.2.2.1, ra.2.2.2.2 + n) ∧ 0 ≤ ra.2.2.2.2 ∧ ra.2.2.2.2 ≤ 2000000)
def LiveRuns (k : Nat) (nm : ByteArray) (p r : Int) (l gl : Blocks) (args mem : List Int) (fuel : Int) (n : Nat) : Prop :=
  ∃ ra rb, run_Run.f k [⟨nm, p, r, l⟩] nm args mem fuel = some ra ∧ run_Run.f k [⟨nm, p, r, gl⟩] nm args mem (fuel + n) = some rb ∧ LiveAgree p args.length n ra rb ∧ cubbylaw11_same.f k ra.2.2.1 ra.2.2.1 = some true ∧ cubbylaw11_same.f k ra.2.2.2.1 ra.2.2.2.1 = some true
end Go.Proofs.YtoilapjkgligfaaDoor.P
