import Derived.Test.YtipaaapbapijhaaProg
import Derived.Test.YtipaaapbapijhaaFwEq
import Derived.Test.YtipaaapbapijhaaFwOpen
namespace Go.Proofs.Ytipaaapbapijhaa.G
open Go Go.Fw Go.RowKit Go.Proofs
set_option linter.unusedVariables false
set_option linter.unusedSimpArgs false

structure S51 where
 f0 : Int
 f1 : Int
 f2 : Int
 f3 : Int
deriving DecidableEq
def zS51 : S51 := ⟨0, 0, 0, 0⟩
def kS51 : Kd S51 := Kd.iso (Kd.prod (Kd.int .u8) (Kd.prod (Kd.int .u8) (Kd.prod (Kd.int .u8) (Kd.prod (Kd.int .i32) Kd.unit)))) (fun s => (s.f0, s.f1, s.f2, s.f3, ()))
def encS51 (s : S51) : List Value := [.int .u8 s.f0, .int .u8 s.f1, .int .u8 s.f2, .int .i32 s.f3]
theorem encS51_of (w : World) (G : Bl) (vs : List Value) (x : S51) (h : kS51.rep w G vs x) : vs = encS51 x := by
 obtain ⟨_, _, rfl, h0, ⟨_, _, rfl, h1, ⟨_, _, rfl, h2, ⟨_, _, rfl, h3, hu⟩⟩⟩⟩ := h
 have h0 := encI_of _ _ _ _ h0
 have h1 := encI_of _ _ _ _ h1
 have h2 := encI_of _ _ _ _ h2
 have h3 := encI_of _ _ _ _ h3
 have hu : _ = [] := hu
 subst hu
 subst h0
 subst h1
 subst h2
 subst h3
 rfl

structure S96 where
 f0 : Int
 f1 : Int
 f2 : Int
 f3 : Int
deriving DecidableEq
def zS96 : S96 := ⟨0, 0, 0, 0⟩
def kS96 : Kd S96 := Kd.iso (Kd.prod (Kd.int .i64) (Kd.prod (Kd.int .i64) (Kd.prod (Kd.int .i32) (Kd.prod (Kd.int .i64) Kd.unit)))) (fun s => (s.f0, s.f1, s.f2, s.f3, ()))
def encS96 (s : S96) : List Value := [.int .i64 s.f0, .int .i64 s.f1, .int .i32 s.f2, .int .i64 s.f3]
theorem encS96_of (w : World) (G : Bl) (vs : List Value) (x : S96) (h : kS96.rep w G vs x) : vs = encS96 x := by
 obtain ⟨_, _, rfl, h0, ⟨_, _, rfl, h1, ⟨_, _, rfl, h2, ⟨_, _, rfl, h3, hu⟩⟩⟩⟩ := h
 have h0 := encI_of _ _ _ _ h0
 have h1 := encI_of _ _ _ _ h1
 have h2 := encI_of _ _ _ _ h2
 have h3 := encI_of _ _ _ _ h3
 have hu : _ = [] := hu
 subst hu
 subst h0
 subst h1
 subst h2
 subst h3
 rfl

structure S33 where
 f0 : Int
 f1 : Int
 f2 : Int
 f3 : Int
deriving DecidableEq
def zS33 : S33 := ⟨0, 0, 0, 0⟩
def kS33 : Kd S33 := Kd.iso (Kd.prod (Kd.int .i32) (Kd.prod (Kd.int .i32) (Kd.prod (Kd.int .i32) (Kd.prod (Kd.int .i32) Kd.unit)))) (fun s => (s.f0, s.f1, s.f2, s.f3, ()))
def encS33 (s : S33) : List Value := [.int .i32 s.f0, .int .i32 s.f1, .int .i32 s.f2, .int .i32 s.f3]
theorem encS33_of (w : World) (G : Bl) (vs : List Value) (x : S33) (h : kS33.rep w G vs x) : vs = encS33 x := by
 obtain ⟨_, _, rfl, h0, ⟨_, _, rfl, h1, ⟨_, _, rfl, h2, ⟨_, _, rfl, h3, hu⟩⟩⟩⟩ := h
 have h0 := encI_of _ _ _ _ h0
 have h1 := encI_of _ _ _ _ h1
 have h2 := encI_of _ _ _ _ h2
 have h3 := encI_of _ _ _ _ h3
 have hu : _ = [] := hu
 subst hu
 subst h0
 subst h1
 subst h2
 subst h3
 rfl

structure S36 where
 f0 : Int
 f1 : Int
 f2 : Int
 f3 : List Int
 f4 : S33
 f5 : Int
 f6 : Int
 f7 : Int
 f8 : Int

def zS36 : S36 := ⟨0, 0, 0, [], zS33, 0, 0, 0, 0⟩
def kS36 : Kd S36 := Kd.iso (Kd.prod (Kd.int .i32) (Kd.prod (Kd.int .i64) (Kd.prod (Kd.int .i64) (Kd.prod (Kd.slice (Kd.int .i32)) (Kd.prod kS33 (Kd.prod (Kd.int .i64) (Kd.prod (Kd.int .i64) (Kd.prod (Kd.int .u32) (Kd.prod (Kd.int .i64) Kd.unit))))))))) (fun s => (s.f0, s.f1, s.f2, s.f3, s.f4, s.f5, s.f6, s.f7, s.f8, ()))
def cellsS36 (x : S36) (b : (Option Addr × Nat)) : List Value := [.int .i32 x.f0, .int .i64 x.f1, .int .i64 x.f2, .slice b.1 x.f3.length b.2, .int .i32 x.f4.f0, .int .i32 x.f4.f1, .int .i32 x.f4.f2, .int .i32 x.f4.f3, .int .i64 x.f5, .int .i64 x.f6, .int .u32 x.f7, .int .i64 x.f8]
def factsS36 (x : S36) (b : (Option Addr × Nat)) : List Ro := [Ro.sl (Kd.int .i32) b.1 b.2 x.f3]
theorem partsS36 (w : World) (G : Bl) (vs : List Value) (x : S36) (h : kS36.rep w G vs x) : ∃ b, vs = cellsS36 x b ∧ ∀ r ∈ factsS36 x b, r.holds w G := by
 obtain ⟨_, _, rfl, h1, ⟨_, _, rfl, h2, ⟨_, _, rfl, h3, ⟨_, _, rfl, h4, ⟨_, _, rfl, h5, ⟨_, _, rfl, h6, ⟨_, _, rfl, h7, ⟨_, _, rfl, h8, ⟨_, _, rfl, h9, hu10⟩⟩⟩⟩⟩⟩⟩⟩⟩ := h
 have hu10 : _ = [] := hu10
 subst hu10
 have h1 := encI_of _ _ _ _ h1
 subst h1
 have h2 := encI_of _ _ _ _ h2
 subst h2
 have h3 := encI_of _ _ _ _ h3
 subst h3
 obtain ⟨A_h4, C_h4, rfl, r_h4⟩ := h4
 have h5 := encS33_of _ _ _ _ h5
 subst h5
 have h6 := encI_of _ _ _ _ h6
 subst h6
 have h7 := encI_of _ _ _ _ h7
 subst h7
 have h8 := encI_of _ _ _ _ h8
 subst h8
 have h9 := encI_of _ _ _ _ h9
 subst h9
 refine ⟨(A_h4, C_h4), rfl, fun r hr => ?_⟩
 simp only [factsS36, List.mem_cons, List.mem_nil_iff, or_false] at hr
 rcases hr with rfl
 ·exact ⟨A_h4, C_h4, rfl, r_h4⟩

structure S60 where
 f0 : S36
 f1 : Int

def zS60 : S60 := ⟨zS36, 0⟩
def kS60 : Kd S60 := Kd.iso (Kd.prod kS36 (Kd.prod (Kd.int .i32) Kd.unit)) (fun s => (s.f0, s.f1, ()))
def cellsS60 (x : S60) (b : (Option Addr × Nat)) : List Value := [.int .i32 x.f0.f0, .int .i64 x.f0.f1, .int .i64 x.f0.f2, .slice b.1 x.f0.f3.length b.2, .int .i32 x.f0.f4.f0, .int .i32 x.f0.f4.f1, .int .i32 x.f0.f4.f2, .int .i32 x.f0.f4.f3, .int .i64 x.f0.f5, .int .i64 x.f0.f6, .int .u32 x.f0.f7, .int .i64 x.f0.f8, .int .i32 x.f1]
def factsS60 (x : S60) (b : (Option Addr × Nat)) : List Ro := [Ro.sl (Kd.int .i32) b.1 b.2 x.f0.f3]
theorem partsS60 (w : World) (G : Bl) (vs : List Value) (x : S60) (h : kS60.rep w G vs x) : ∃ b, vs = cellsS60 x b ∧ ∀ r ∈ factsS60 x b, r.holds w G := by
 obtain ⟨_, _, rfl, h1, ⟨_, _, rfl, h2, hu3⟩⟩ := h
 have hu3 : _ = [] := hu3
 subst hu3
 obtain ⟨_, _, rfl, h4, ⟨_, _, rfl, h5, ⟨_, _, rfl, h6, ⟨_, _, rfl, h7, ⟨_, _, rfl, h8, ⟨_, _, rfl, h9, ⟨_, _, rfl, h10, ⟨_, _, rfl, h11, ⟨_, _, rfl, h12, hu13⟩⟩⟩⟩⟩⟩⟩⟩⟩ := h1
 have hu13 : _ = [] := hu13
 subst hu13
 have h4 := encI_of _ _ _ _ h4
 subst h4
 have h5 := encI_of _ _ _ _ h5
 subst h5
 have h6 := encI_of _ _ _ _ h6
 subst h6
 obtain ⟨A_h7, C_h7, rfl, r_h7⟩ := h7
 have h8 := encS33_of _ _ _ _ h8
 subst h8
 have h9 := encI_of _ _ _ _ h9
 subst h9
 have h10 := encI_of _ _ _ _ h10
 subst h10
 have h11 := encI_of _ _ _ _ h11
 subst h11
 have h12 := encI_of _ _ _ _ h12
 subst h12
 have h2 := encI_of _ _ _ _ h2
 subst h2
 refine ⟨(A_h7, C_h7), rfl, fun r hr => ?_⟩
 simp only [factsS60, List.mem_cons, List.mem_nil_iff, or_false] at hr
 rcases hr with rfl
 ·exact ⟨A_h7, C_h7, rfl, r_h7⟩

structure S53 where
 f0 : S36
 f1 : Int

def zS53 : S53 := ⟨zS36, 0⟩
def kS53 : Kd S53 := Kd.iso (Kd.prod kS36 (Kd.prod (Kd.int .i32) Kd.unit)) (fun s => (s.f0, s.f1, ()))
def cellsS53 (x : S53) (b : (Option Addr × Nat)) : List Value := [.int .i32 x.f0.f0, .int .i64 x.f0.f1, .int .i64 x.f0.f2, .slice b.1 x.f0.f3.length b.2, .int .i32 x.f0.f4.f0, .int .i32 x.f0.f4.f1, .int .i32 x.f0.f4.f2, .int .i32 x.f0.f4.f3, .int .i64 x.f0.f5, .int .i64 x.f0.f6, .int .u32 x.f0.f7, .int .i64 x.f0.f8, .int .i32 x.f1]
def factsS53 (x : S53) (b : (Option Addr × Nat)) : List Ro := [Ro.sl (Kd.int .i32) b.1 b.2 x.f0.f3]
theorem partsS53 (w : World) (G : Bl) (vs : List Value) (x : S53) (h : kS53.rep w G vs x) : ∃ b, vs = cellsS53 x b ∧ ∀ r ∈ factsS53 x b, r.holds w G := by
 obtain ⟨_, _, rfl, h1, ⟨_, _, rfl, h2, hu3⟩⟩ := h
 have hu3 : _ = [] := hu3
 subst hu3
 obtain ⟨_, _, rfl, h4, ⟨_, _, rfl, h5, ⟨_, _, rfl, h6, ⟨_, _, rfl, h7, ⟨_, _, rfl, h8, ⟨_, _, rfl, h9, ⟨_, _, rfl, h10, ⟨_, _, rfl, h11, ⟨_, _, rfl, h12, hu13⟩⟩⟩⟩⟩⟩⟩⟩⟩ := h1
 have hu13 : _ = [] := hu13
 subst hu13
 have h4 := encI_of _ _ _ _ h4
 subst h4
 have h5 := encI_of _ _ _ _ h5
 subst h5
 have h6 := encI_of _ _ _ _ h6
 subst h6
 obtain ⟨A_h7, C_h7, rfl, r_h7⟩ := h7
 have h8 := encS33_of _ _ _ _ h8
 subst h8
 have h9 := encI_of _ _ _ _ h9
 subst h9
 have h10 := encI_of _ _ _ _ h10
 subst h10
 have h11 := encI_of _ _ _ _ h11
 subst h11
 have h12 := encI_of _ _ _ _ h12
 subst h12
 have h2 := encI_of _ _ _ _ h2
 subst h2
 refine ⟨(A_h7, C_h7), rfl, fun r hr => ?_⟩
 simp only [factsS53, List.mem_cons, List.mem_nil_iff, or_false] at hr
 rcases hr with rfl
 ·exact ⟨A_h7, C_h7, rfl, r_h7⟩

noncomputable def Cd5 : Code := bodyOf Try.f5

noncomputable def Cd10 : Code := bodyOf Try.f10

noncomputable def Cd11 : Code := bodyOf Try.f11

noncomputable def Cd12 : Code := bodyOf Try.f12

noncomputable def Cd13 : Code := bodyOf Try.f13

noncomputable def Cd14 : Code := bodyOf Try.f14

noncomputable def Cd15 : Code := bodyOf Try.f15

noncomputable def Cd16 : Code := bodyOf Try.f16

noncomputable def Cd17 : Code := bodyOf Try.f17

noncomputable def Cd18 : Code := bodyOf Try.f18

noncomputable def Cd19 : Code := bodyOf Try.f19

noncomputable def Cd20 : Code := bodyOf Try.f20

noncomputable def Cd21 : Code := bodyOf Try.f21

noncomputable def Cd22 : Code := bodyOf Try.f22

noncomputable def Cd23 : Code := bodyOf Try.f23

noncomputable def Cd24 : Code := bodyOf Try.f24

noncomputable def Cd25 : Code := bodyOf Try.f25

noncomputable def Cd26 : Code := bodyOf Try.f26

noncomputable def Cd41 : Code := bodyOf Try.f41

noncomputable def Cd42 : Code := bodyOf Try.f42

noncomputable def Cd43 : Code := bodyOf Try.f43

noncomputable def Cd44 : Code := bodyOf Try.f44

noncomputable def Cd45 : Code := bodyOf Try.f45

noncomputable def Cd46 : Code := bodyOf Try.f46

noncomputable def Cd47 : Code := bodyOf Try.f47

noncomputable def Cd48 : Code := bodyOf Try.f48

noncomputable def Cd49 : Code := bodyOf Try.f49

noncomputable def Cd50 : Code := bodyOf Try.f50

noncomputable def Cd64 : Code := bodyOf Try.f64

noncomputable def Cd65 : Code := bodyOf Try.f65

noncomputable def Cd66 : Code := bodyOf Try.f66

noncomputable def Cd67 : Code := bodyOf Try.f67

noncomputable def Cd68 : Code := bodyOf Try.f68

noncomputable def Cd69 : Code := bodyOf Try.f69

noncomputable def Cd73 : Code := bodyOf Try.f73

noncomputable def Cd74 : Code := bodyOf Try.f74

noncomputable def Cd75 : Code := bodyOf Try.f75

noncomputable def Cd76 : Code := bodyOf Try.f76

noncomputable def Cd77 : Code := bodyOf Try.f77

noncomputable def Cd78 : Code := bodyOf Try.f78

end Go.Proofs.Ytipaaapbapijhaa.G
