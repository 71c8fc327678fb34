import Derived.Test.YtoilapjkgligfaaDoorKP
import Derived.WalkSpells
import Derived.WalkLawsBesides
namespace Go.Proofs.YtoilapjkgligfaaDoor.P
set_option linter.unusedVariables false
open Go.RowKit Go.Proofs.YtoilapjkgligfaaDoorW.PrintWords Go.Proofs.YtoilapjkgligfaaDoorW.PrintLast Go.Proofs.YtoilapjkgligfaaDoorW.PrintMore

def shapesL : List ByteArray := [⟨#[]⟩, ⟨#[114, 110, 32]⟩, ⟨#[114, 114, 32]⟩, ⟨#[114, 114, 114]⟩, ⟨#[114, 114, 114]⟩, ⟨#[114, 114, 114]⟩, ⟨#[114, 114, 114]⟩, ⟨#[114, 114, 114]⟩, ⟨#[114, 114, 32]⟩, ⟨#[32, 114, 114]⟩, ⟨#[32, 114, 32]⟩, ⟨#[114, 32, 32]⟩, ⟨#[32, 116, 32]⟩, ⟨#[116, 114, 116]⟩, ⟨#[32, 114, 32]⟩]

structure GS (w : World) : Prop where mk :: (out : ∀ i, i < 15 → w.cell? ⟨0, i, none⟩ = some (.string (shapesL.getD i ⟨#[]⟩)))

theorem GS.of_below {w w1 : World} (h : GS w) (hb : Below w.heap.size w w1) : GS w1 := ⟨fun i hi => pw_cell_below hb (h.out i hi)⟩
theorem GS.alloc {w : World} (h : GS w) {o : Obj} : GS (w.alloc o) := h.of_below (below_alloc (Below.refl _ _) o)
theorem GS.drew {w : World} (h : GS w) : GS w.drew := h.of_below (below_drew (Below.refl _ _))
theorem GS.drewN {w : World} (h : GS w) {n : Nat} : GS (w.drewN n) := h.of_below (pw_below_drewN (Below.refl _ _) n)

def ir_shape.f (a0 : Int) : Option ByteArray := some (if a0 < 0 then ⟨#[]⟩ else if 15 ≤ a0 then ⟨#[]⟩ else shapesL.getD a0.toNat ⟨#[]⟩)

set_option maxHeartbeats 400000 in
theorem ir_shape.calls (a0 : Int) (r : ByteArray) (w : World) (hGS : GS w) (h : ir_shape.f a0 = some r) :
    Calls Tryd.prog 107 #[.int .i64 a0] w fun e w' => e = .returned (.string r) ∧ Drawn0 w w' := by
  have HG := Aside0.mk hGS
  clear hGS
  unfold ir_shape.f at h
  by_cases c1 : a0 < 0
  · rw [if_pos c1] at h
    obtain rfl := Option.some.inj h
    clear h
    go_enter Tryd.func107, Tryd.ntmps107
    go_wp2
    go_ret
    exact ⟨rfl, Drawn0.refl _⟩
  · rw [if_neg c1] at h
    by_cases c2 : 15 ≤ a0
    · rw [if_pos c2] at h
      obtain rfl := Option.some.inj h
      clear h
      go_enter Tryd.func107, Tryd.ntmps107
      go_wp2
      go_ret
      exact ⟨rfl, Drawn0.refl _⟩
    · rw [if_neg c2] at h
      have hc := HG.out.out a0.toNat (by omega)
      obtain rfl := Option.some.inj h
      clear h
      go_enter Tryd.func107, Tryd.ntmps107
      go_wp2
      go_ret
      exact ⟨rfl, Drawn0.refl _⟩
end Go.Proofs.YtoilapjkgligfaaDoor.P
