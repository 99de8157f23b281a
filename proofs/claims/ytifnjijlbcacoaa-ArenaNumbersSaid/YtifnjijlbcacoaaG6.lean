import Derived.Test.YtifnjijlbcacoaaProg
import Derived.Test.YtifnjijlbcacoaaFwEq
import Derived.Test.YtifnjijlbcacoaaFwOpen
namespace Go.Proofs.Ytifnjijlbcacoaa.G
open Go Go.Fw Go.RowKit Go.Proofs
set_option linter.unusedVariables false
set_option linter.unusedSimpArgs false

structure S84 where
  f0 : Int
  f1 : Int
deriving DecidableEq
def zS84 : S84 := ⟨0, 0⟩
def kS84 : Kd S84 := Kd.iso (Kd.prod (Kd.int .u8) (Kd.prod (Kd.int .u8) Kd.unit)) (fun s => (s.f0, s.f1, ()))
def encS84 (s : S84) : List Value := [.int .u8 s.f0, .int .u8 s.f1]
theorem encS84_of (w : World) (G : Bl) (vs : List Value) (x : S84) (h : kS84.rep w G vs x) : vs = encS84 x := by
  obtain ⟨_, _, rfl, h0, ⟨_, _, rfl, h1, hu⟩⟩ := h
  have h0 := encI_of _ _ _ _ h0
  have h1 := encI_of _ _ _ _ h1
  have hu : _ = [] := hu
  subst hu
  subst h0
  subst h1
  rfl

noncomputable def Cd12 : Code := bodyOf Try.f12

end Go.Proofs.Ytifnjijlbcacoaa.G
