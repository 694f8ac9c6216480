/- span.Parse, span.Text, soundingslaw01.Code in the print's shape; what is laid (GL). -/
import Derived.Test.YtmgbnnanophehaaDoorSx0
import Derived.Test.YtmgbnnanophehaaDoorSpanT
import Derived.Test.YtmgbnnanophehaaDoorErr
namespace Go.Proofs.YtmgbnnanophehaaDoor.S
open Go.Proofs Go.RowKit Go.Proofs.YtmgbnnanophehaaDoorW.PrintWords Go.Proofs.YtmgbnnanophehaaDoorW.PrintLast
set_option linter.unusedVariables false
/-- What the variables that are read hold. -/
structure GL (w : World) : Prop where
  u : Span.UTab w
  p : Span.PTab w
  e : Err.ErrTab w
theorem GL.below {w w' : World} (h : GL w) (hb : Below w.heap.size w w') : GL w' :=
  ⟨h.u.below hb, h.p.below hb, (hb.cell (p := ⟨1, 0, none⟩) (World.block_lt_of_cell? w _ h.e)).trans h.e⟩
theorem errS_W (o : Option Int) : Span.errS o = errW o := by cases o <;> simp [Span.errS, errW]
theorem errV_W (o : Option Int) : Err.errV o = errW o := by cases o <;> simp [Err.errV, errW]
def span_Parse.f (a0 : ByteArray) : Option (Int × Option Int) := some (Span.parseL a0.data.toList)
theorem span_Parse.calls (a0 : ByteArray) (r1 : Int) (r2 : Option Int) (w : World) (hG : GL w) (h : span_Parse.f a0 = some (r1, r2)) :
    Calls Tryd.prog 13 #[.string a0] w fun e w' => e = .returned (.tuple #[.int .i64 r1, errW r2]) ∧ Below w.heap.size w w' := by
  have h1 := Option.some.inj h
  have h2 := Span.parse_calls a0 w hG.u
  rw [h1, errS_W] at h2
  exact h2
def span_Text.f (a0 : Int) : Option (ByteArray × Option Int) := some (Span.B (Span.textL a0).1, (Span.textL a0).2)
theorem span_Text.calls (a0 : Int) (r1 : ByteArray) (r2 : Option Int) (w : World) (hG : GL w) (h : span_Text.f a0 = some (r1, r2)) :
    Calls Tryd.prog 15 #[.int .i64 a0] w fun e w' => e = .returned (.tuple #[.string r1, errW r2]) ∧ Below w.heap.size w w' := by
  have h1 := Option.some.inj h
  simp only [Prod.mk.injEq] at h1
  have h2 := Span.text_calls a0 w hG.u hG.p
  rw [h1.1, h1.2, errS_W] at h2
  exact h2
def soundingslaw01_Code.f (a0 : Option Int) : Option Int := some (Err.codeOf a0)
theorem soundingslaw01_Code.calls (a0 : Option Int) (r : Int) (w : World) (hG : GL w) (h : soundingslaw01_Code.f a0 = some r) :
    Calls Tryd.prog 11 #[errW a0] w fun e w' => e = .returned (.int .i64 r) ∧ Below w.heap.size w w' := by
  have h2 := Err.code_calls a0 w hG.e
  rw [Option.some.inj h, errV_W] at h2
  exact h2
end Go.Proofs.YtmgbnnanophehaaDoor.S
