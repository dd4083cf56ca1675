/- Short words for what is carried over new blocks and draws. -/
import Derived.Test.YteeeiaggkdlolaaKy0
namespace Go.Proofs.Yteeeiaggkdlolaa.Ky
open Go.RowKit Go.Proofs.YteeeiaggkdlolaaW.PrintWords Go.Proofs.YteeeiaggkdlolaaW.PrintLast Go.Proofs.YteeeiaggkdlolaaW.PrintMore
/-- One world lies below another. -/
def Mv (w w' : World) : Type := PLift (Below w.heap.size w w')
instance mv_refl (w : World) : Inhabited (Mv w w) := ⟨⟨Below.refl _ _⟩⟩
instance mv_alloc (w w' : World) (o : Obj) [h : Inhabited (Mv w w')] : Inhabited (Mv w (w'.alloc o)) := ⟨⟨below_alloc h.default.down o⟩⟩
instance mv_drewN (w w' : World) (n : Nat) [h : Inhabited (Mv w w')] : Inhabited (Mv w (w'.drewN n)) := ⟨⟨pw_below_drewN h.default.down n⟩⟩
instance mv_drew (w w' : World) [h : Inhabited (Mv w w')] : Inhabited (Mv w w'.drew) := ⟨⟨below_drew h.default.down⟩⟩
theorem nv {α : Type} {d : Kd α} {e base : Nat} {ok : Nat → Prop} {w w' : World} {v : Value} {xs : List α} (h : d.N e w base ok v xs) [m : Inhabited (Mv w w')] : d.N e w' base ok v xs := Kd.N_below h m.default.down
theorem vv {α : Type} {d : Kd α} {e base : Nat} {ok : Nat → Prop} {w w' : World} {v : Value} {xs : List α} (h : d.V e w base ok v xs) [m : Inhabited (Mv w w')] : d.V e w' base ok v xs := Kd.V_below h m.default.down
theorem rv {α : Type} {d : Kd α} {e base : Nat} {ok : Nat → Prop} {w w' : World} {v : Value} {xs : List α} (h : d.R e w base ok v xs) [m : Inhabited (Mv w w')] : d.R e w' base ok v xs := Kd.R_below h m.default.down
theorem bv {w0 w w' : World} (h : Below w0.heap.size w0 w) [m : Inhabited (Mv w w')] : Below w0.heap.size w0 w' := below_step h m.default.down
theorem kv {g : Nat} {o : Obj} {w w' : World} (h : w.heap[g]? = some o) [m : Inhabited (Mv w w')] : w'.heap[g]? = some o := blk_below h m.default.down
end Go.Proofs.Yteeeiaggkdlolaa.Ky
