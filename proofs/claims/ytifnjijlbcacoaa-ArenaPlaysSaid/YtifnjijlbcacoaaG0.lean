import Derived.Test.YtifnjijlbcacoaaProg
import Derived.Test.YtifnjijlbcacoaaFwEq
import Derived.Test.YtifnjijlbcacoaaFwOpen
namespace Go.Proofs.Ytifnjijlbcacoaa.G
open Go Go.Fw Go.RowKit Go.Proofs
set_option linter.unusedVariables false
set_option linter.unusedSimpArgs false

structure S69 where
  f0 : Int
  f1 : Int
deriving DecidableEq
def zS69 : S69 := ⟨0, 0⟩
def kS69 : Kd S69 := Kd.iso (Kd.prod (Kd.int .i64) (Kd.prod (Kd.int .i32) Kd.unit)) (fun s => (s.f0, s.f1, ()))
def encS69 (s : S69) : List Value := [.int .i64 s.f0, .int .i32 s.f1]
theorem encS69_of (w : World) (G : Bl) (vs : List Value) (x : S69) (h : kS69.rep w G vs x) : vs = encS69 x := by
  obtain ⟨_, _, rfl, h0, ⟨_, _, rfl, h1, hu⟩⟩ := h
  have h0 := encI_of _ _ _ _ h0
  have h1 := encI_of _ _ _ _ h1
  have hu : _ = [] := hu
  subst hu
  subst h0
  subst h1
  rfl

noncomputable def Cd11 : Code := bodyOf Try.f11

noncomputable def Cd32 : Code := bodyOf Try.f32

noncomputable def Cd34 : Code := bodyOf Try.f34

noncomputable def Cd36 : Code := bodyOf Try.f36

noncomputable def Cd38 : Code := bodyOf Try.f38

noncomputable def Cd40 : Code := bodyOf Try.f40

noncomputable def Cd42 : Code := bodyOf Try.f42

noncomputable def Cd51 : Code := bodyOf Try.f51

noncomputable def Cd53 : Code := bodyOf Try.f53

noncomputable def Cd59 : Code := bodyOf Try.f59

noncomputable def Cd60 : Code := bodyOf Try.f60

noncomputable def Cd63 : Code := bodyOf Try.f63

noncomputable def Cd64 : Code := bodyOf Try.f64

noncomputable def Cd65 : Code := bodyOf Try.f65

end Go.Proofs.Ytifnjijlbcacoaa.G
