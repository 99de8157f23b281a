import Derived.Test.YtjfnejcanlkknaaProg
import Derived.Test.YtjfnejcanlkknaaFwEq
import Derived.Test.YtjfnejcanlkknaaFwOpen
namespace Go.Proofs.Ytjfnejcanlkknaa.G
open Go Go.Fw Go.RowKit Go.Proofs
set_option linter.unusedVariables false
set_option linter.unusedSimpArgs false

structure S68 where
  f0 : Int
  f1 : Int
  f2 : Int
  f3 : Int
  f4 : Int
  f5 : Int
deriving DecidableEq
def zS68 : S68 := ⟨0, 0, 0, 0, 0, 0⟩
def kS68 : Kd S68 := Kd.iso (Kd.prod (Kd.int .u8) (Kd.prod (Kd.int .u8) (Kd.prod (Kd.int .u8) (Kd.prod (Kd.int .u8) (Kd.prod (Kd.int .i32) (Kd.prod (Kd.int .i32) Kd.unit)))))) (fun s => (s.f0, s.f1, s.f2, s.f3, s.f4, s.f5, ()))
def encS68 (s : S68) : List Value := [.int .u8 s.f0, .int .u8 s.f1, .int .u8 s.f2, .int .u8 s.f3, .int .i32 s.f4, .int .i32 s.f5]
theorem encS68_of (w : World) (G : Bl) (vs : List Value) (x : S68) (h : kS68.rep w G vs x) : vs = encS68 x := by
  obtain ⟨_, _, rfl, h0, ⟨_, _, rfl, h1, ⟨_, _, rfl, h2, ⟨_, _, rfl, h3, ⟨_, _, rfl, h4, ⟨_, _, rfl, h5, hu⟩⟩⟩⟩⟩⟩ := h
  have h0 := encI_of _ _ _ _ h0
  have h1 := encI_of _ _ _ _ h1
  have h2 := encI_of _ _ _ _ h2
  have h3 := encI_of _ _ _ _ h3
  have h4 := encI_of _ _ _ _ h4
  have h5 := encI_of _ _ _ _ h5
  have hu : _ = [] := hu
  subst hu
  subst h0
  subst h1
  subst h2
  subst h3
  subst h4
  subst h5
  rfl

structure S75 where
  f0 : Int
  f1 : Int
  f2 : Int
  f3 : Int
deriving DecidableEq
def zS75 : S75 := ⟨0, 0, 0, 0⟩
def kS75 : Kd S75 := Kd.iso (Kd.prod (Kd.int .i64) (Kd.prod (Kd.int .i64) (Kd.prod (Kd.int .i32) (Kd.prod (Kd.int .i64) Kd.unit)))) (fun s => (s.f0, s.f1, s.f2, s.f3, ()))
def encS75 (s : S75) : List Value := [.int .i64 s.f0, .int .i64 s.f1, .int .i32 s.f2, .int .i64 s.f3]
theorem encS75_of (w : World) (G : Bl) (vs : List Value) (x : S75) (h : kS75.rep w G vs x) : vs = encS75 x := by
  obtain ⟨_, _, rfl, h0, ⟨_, _, rfl, h1, ⟨_, _, rfl, h2, ⟨_, _, rfl, h3, hu⟩⟩⟩⟩ := h
  have h0 := encI_of _ _ _ _ h0
  have h1 := encI_of _ _ _ _ h1
  have h2 := encI_of _ _ _ _ h2
  have h3 := encI_of _ _ _ _ h3
  have hu : _ = [] := hu
  subst hu
  subst h0
  subst h1
  subst h2
  subst h3
  rfl

noncomputable def Cd11 : Code := bodyOf Try.f11

noncomputable def Cd42 : Code := bodyOf Try.f42

noncomputable def Cd43 : Code := bodyOf Try.f43

noncomputable def Cd44 : Code := bodyOf Try.f44

noncomputable def Cd45 : Code := bodyOf Try.f45

noncomputable def Cd46 : Code := bodyOf Try.f46

noncomputable def Cd47 : Code := bodyOf Try.f47

noncomputable def Cd48 : Code := bodyOf Try.f48

noncomputable def Cd49 : Code := bodyOf Try.f49

noncomputable def Cd50 : Code := bodyOf Try.f50

noncomputable def Cd51 : Code := bodyOf Try.f51

noncomputable def Cd52 : Code := bodyOf Try.f52

noncomputable def Cd53 : Code := bodyOf Try.f53

noncomputable def Cd54 : Code := bodyOf Try.f54

noncomputable def Cd55 : Code := bodyOf Try.f55

noncomputable def Cd56 : Code := bodyOf Try.f56

noncomputable def Cd57 : Code := bodyOf Try.f57

noncomputable def Cd66 : Code := bodyOf Try.f66

noncomputable def Cd67 : Code := bodyOf Try.f67

noncomputable def Cd68 : Code := bodyOf Try.f68

noncomputable def Cd69 : Code := bodyOf Try.f69

noncomputable def Cd70 : Code := bodyOf Try.f70

noncomputable def Cd71 : Code := bodyOf Try.f71

noncomputable def Cd72 : Code := bodyOf Try.f72

noncomputable def Cd73 : Code := bodyOf Try.f73

noncomputable def Cd74 : Code := bodyOf Try.f74

noncomputable def Cd75 : Code := bodyOf Try.f75

noncomputable def Cd76 : Code := bodyOf Try.f76

noncomputable def Cd80 : Code := bodyOf Try.f80

noncomputable def Cd81 : Code := bodyOf Try.f81

noncomputable def Cd83 : Code := bodyOf Try.f83

noncomputable def Cd84 : Code := bodyOf Try.f84

noncomputable def Cd85 : Code := bodyOf Try.f85

end Go.Proofs.Ytjfnejcanlkknaa.G
