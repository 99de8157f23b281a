import Derived.Test.YtipaaapbapijhaaProg
import Derived.Test.YtipaaapbapijhaaFwEq
import Derived.Test.YtipaaapbapijhaaFwOpen
import Derived.Test.YtipaaapbapijhaaFwMap
namespace Go.Proofs.Ytipaaapbapijhaa.G
open Go Go.Fw Go.RowKit Go.Proofs
set_option linter.unusedVariables false
set_option linter.unusedSimpArgs false

structure S111 where
 f0 : Int
 f1 : Int
 f2 : Int
 f3 : Int
deriving DecidableEq
def zS111 : S111 := ⟨0, 0, 0, 0⟩
def kS111 : Kd S111 := Kd.iso (Kd.prod (Kd.int .u8) (Kd.prod (Kd.int .u8) (Kd.prod (Kd.int .u8) (Kd.prod (Kd.int .u8) Kd.unit)))) (fun s => (s.f0, s.f1, s.f2, s.f3, ()))
def encS111 (s : S111) : List Value := [.int .u8 s.f0, .int .u8 s.f1, .int .u8 s.f2, .int .u8 s.f3]
theorem encS111_of (w : World) (G : Bl) (vs : List Value) (x : S111) (h : kS111.rep w G vs x) : vs = encS111 x := by
 obtain ⟨_, _, rfl, h0, ⟨_, _, rfl, h1, ⟨_, _, rfl, h2, ⟨_, _, rfl, h3, hu⟩⟩⟩⟩ := h
 have h0 := encI_of _ _ _ _ h0
 have h1 := encI_of _ _ _ _ h1
 have h2 := encI_of _ _ _ _ h2
 have h3 := encI_of _ _ _ _ h3
 have hu : _ = [] := hu
 subst hu
 subst h0
 subst h1
 subst h2
 subst h3
 rfl

structure S69 where
 f0 : Int
 f1 : Int
 f2 : Int
 f3 : Int
 f4 : Int
 f5 : Int
deriving DecidableEq
def zS69 : S69 := ⟨0, 0, 0, 0, 0, 0⟩
def kS69 : Kd S69 := Kd.iso (Kd.prod (Kd.int .i64) (Kd.prod (Kd.int .i64) (Kd.prod (Kd.int .i64) (Kd.prod (Kd.int .i32) (Kd.prod (Kd.int .i64) (Kd.prod (Kd.int .i32) Kd.unit)))))) (fun s => (s.f0, s.f1, s.f2, s.f3, s.f4, s.f5, ()))
def encS69 (s : S69) : List Value := [.int .i64 s.f0, .int .i64 s.f1, .int .i64 s.f2, .int .i32 s.f3, .int .i64 s.f4, .int .i32 s.f5]
theorem encS69_of (w : World) (G : Bl) (vs : List Value) (x : S69) (h : kS69.rep w G vs x) : vs = encS69 x := by
 obtain ⟨_, _, rfl, h0, ⟨_, _, rfl, h1, ⟨_, _, rfl, h2, ⟨_, _, rfl, h3, ⟨_, _, rfl, h4, ⟨_, _, rfl, h5, hu⟩⟩⟩⟩⟩⟩ := h
 have h0 := encI_of _ _ _ _ h0
 have h1 := encI_of _ _ _ _ h1
 have h2 := encI_of _ _ _ _ h2
 have h3 := encI_of _ _ _ _ h3
 have h4 := encI_of _ _ _ _ h4
 have h5 := encI_of _ _ _ _ h5
 have hu : _ = [] := hu
 subst hu
 subst h0
 subst h1
 subst h2
 subst h3
 subst h4
 subst h5
 rfl

noncomputable def Cd8 : Code := bodyOf Try.f8

noncomputable def Cd27 : Code := bodyOf Try.f27

noncomputable def Cd28 : Code := bodyOf Try.f28

noncomputable def Cd29 : Code := bodyOf Try.f29

noncomputable def Cd30 : Code := bodyOf Try.f30

noncomputable def Cd31 : Code := bodyOf Try.f31

noncomputable def Cd32 : Code := bodyOf Try.f32

noncomputable def Cd33 : Code := bodyOf Try.f33

noncomputable def Cd34 : Code := bodyOf Try.f34

noncomputable def Cd35 : Code := bodyOf Try.f35

noncomputable def Cd36 : Code := bodyOf Try.f36

noncomputable def Cd37 : Code := bodyOf Try.f37

noncomputable def Cd39 : Code := bodyOf Try.f39

noncomputable def Cd40 : Code := bodyOf Try.f40

noncomputable def Cd51 : Code := bodyOf Try.f51

noncomputable def Cd52 : Code := bodyOf Try.f52

noncomputable def Cd53 : Code := bodyOf Try.f53

noncomputable def Cd54 : Code := bodyOf Try.f54

noncomputable def Cd55 : Code := bodyOf Try.f55

noncomputable def Cd57 : Code := bodyOf Try.f57

noncomputable def Cd58 : Code := bodyOf Try.f58

noncomputable def Cd59 : Code := bodyOf Try.f59

noncomputable def Cd60 : Code := bodyOf Try.f60

noncomputable def Cd61 : Code := bodyOf Try.f61

noncomputable def Cd62 : Code := bodyOf Try.f62

noncomputable def Cd63 : Code := bodyOf Try.f63

noncomputable def Cd70 : Code := bodyOf Try.f70

noncomputable def Cd71 : Code := bodyOf Try.f71

noncomputable def Cd72 : Code := bodyOf Try.f72

/-! ### confidant/audit.New: function 29 -/
def audit_New.f (K : Nat)  : Option (List S69) := some ([] : List S69)
set_option maxRecDepth 100000 in
theorem audit_New.calls {K : Nat} {x25 : List S69} {B w : World} {os : List Ass} {rs : List Ro} (H : audit_New.f K = some x25) (hS : St B w (os) (rs)) :
  Calls Try.prog 29 [].toArray w (fun en w' => ∃ v, en = .returned v ∧ ∃ g24 : Nat, ∃ A26 : Option Addr, ∃ C27 : Nat, v = .pointer (some ⟨g24, 0, none⟩) ∧ St B w' (Ass.box 113 g24 [.slice A26 x25.length C27] :: Ass.own 69 kS69 A26 C27 x25 :: os) (rs)) := by
 unfold audit_New.f at H
 refine calls_of_EW (args := []) (c := Cd29) 3 Try.func29 (by kernel_rfl) (by kernel_rfl) (by kernel_rfl) ?_
 refine EW.seq (x := Cd29.l) (y := Cd29.r) (by kernel_rfl) ?_
 refine EW.region (id := 0) (ops := Cd29.l.ops) (by kernel_rfl) ?_
 refine EL.quick 1 [] [] (by kernel_rfl) ?_
 refine EL.done (by kernel_rfl) ?_
 refine EQ.code ?_
 refine EW.seq (x := Cd29.r.l) (y := Cd29.r.r) (by kernel_rfl) ?_
 refine EW.region (id := 1) (ops := Cd29.r.l.ops) (by kernel_rfl) ?_
 refine EL.quick 1 [1] [(1, .agg #[.slice none ([] : List S69).length 0])] (by kernel_rfl) ?_
 refine EL.of (EO.box hS 113 (.agg #[.slice none ([] : List S69).length 0]) [.slice none ([] : List S69).length 0] 2 (by kernel_rfl) (by kernel_rfl) (by kernel_rfl) (by first | rfl | kernel_rfl) ?_)
 intro g29 w hS
 refine EL.quick 1 [0] [(0, .pointer (some ⟨g29, 0, none⟩))] (by kernel_rfl) ?_
 refine EL.done (by kernel_rfl) ?_
 refine EQ.code ?_
 refine EW.ret (by kernel_rfl) ?_
 have hS := St.nilO hS 69 kS69
 obtain rfl := Option.some.inj H
 exact EQ.leave (.pointer (some ⟨g29, 0, none⟩)) (by kernel_rfl) ⟨_, rfl, g29, none, 0, rfl, (hS.re [0, 1] [] rfl (sub_self))⟩

/-! ### (*confidant/audit.Log).Add: function 30 -/
def audit_Log_Add.f (K : Nat) (l44 : List S69) (l48 : List S69) : Option (List S69) := if (l44.length + l48.length) * 48 ≤ 140737488355328 then (lt (l44 ++ l48) fun l59 => (some l59)) else none
set_option maxRecDepth 100000 in
theorem audit_Log_Add.calls {K : Nat} {l44 : List S69} {l48 : List S69} {g43 : Nat} {A45 : Option Addr} {C46 : Nat} {A49 : Option Addr} {C50 : Nat} {x55 : List S69} {B w : World} {os : List Ass} {rs : List Ro} (H : audit_Log_Add.f K l44 l48 = some x55) (hS : St B w (Ass.box 113 g43 [.slice A45 l44.length C46] :: Ass.own 69 kS69 A45 C46 l44 :: os) (Ro.sl kS69 A49 C50 l48 :: rs)) :
  Calls Try.prog 30 [.pointer (some ⟨g43, 0, none⟩), .slice A49 l48.length C50].toArray w (fun en w' => ∃ v, en = .returned v ∧ ∃ A56 : Option Addr, ∃ C57 : Nat, v = .tuple #[] ∧ St B w' (Ass.box 113 g43 [.slice A56 x55.length C57] :: Ass.own 69 kS69 A56 C57 x55 :: os) (Ro.sl kS69 A49 C50 l48 :: rs)) := by
 unfold audit_Log_Add.f at H
 refine calls_of_EW (args := [.pointer (some ⟨g43, 0, none⟩), .slice A49 l48.length C50]) (c := Cd30) 13 Try.func30 (by kernel_rfl) (by kernel_rfl) (by kernel_rfl) ?_
 refine EW.region (id := 0) (ops := Cd30.ops) (by kernel_rfl) ?_
 refine EL.quick 4 [1, 4, 7] [(1, .slice A49 l48.length C50), (4, .pointer (some ⟨g43, 0, none⟩)), (7, .pointer (some ⟨g43, 0, none⟩))] (by kernel_rfl) ?_
 refine EL.of (EO.Y (YO.loadBox hS 0 rfl 64 0 1 (.slice A45 l44.length C46) 8 (by kernel_rfl) (by kernel_rfl) (by kernel_rfl) (by kernel_rfl)) ?_)
 refine EL.quick 1 [4, 8, 9] [(4, .pointer (some ⟨g43, 0, none⟩)), (8, .slice A45 l44.length C46), (9, .slice A49 l48.length C50)] (by kernel_rfl) ?_
 obtain ⟨h58, H⟩ := ite_in H
 obtain ⟨l59, hl59, H⟩ := lt_out H
 refine EL.of (EO.append hS 64 64 69 48 1 kS69 A45 C46 l44 rfl A49 C50 l48 (Rd.ro 0 rfl) l59 hl59 (fun A60 C61 => Ass.box 113 g43 [.slice A45 l44.length C46] :: Ass.own 69 kS69 A60 C61 l59 :: os) 10 (by kernel_rfl) (by kernel_rfl) (by kernel_rfl) (by kernel_rfl) h58 (fun _ _ => rfl) ?_)
 intro A60 C61 w hS
 refine EL.quick 2 [10, 12] [(10, .slice A60 l59.length C61), (12, .pointer (some ⟨g43, 0, none⟩))] (by kernel_rfl) ?_
 refine EL.of (EO.storeBox (os' := Ass.box 113 g43 [.slice A60 l59.length C61] :: Ass.own 69 kS69 A60 C61 l59 :: os) hS 0 rfl 64 0 (.slice A60 l59.length C61) [.slice A60 l59.length C61] (by kernel_rfl) (by kernel_rfl) (by kernel_rfl) (by kernel_rfl) (by kernel_rfl) (by kernel_rfl) rfl rfl ?_)
 intro w hS
 refine EL.done (by kernel_rfl) ?_
 obtain rfl := Option.some.inj H
 exact EQ.leaveN (.tuple #[]) (by kernel_rfl) ⟨_, rfl, A60, C61, rfl, (hS.re [1, 1] [] rfl (sub_self))⟩

/-! ### slices.Clone[[]confidant/api.Record,confidant/api.Record]: function 54 -/
def api_Record.f (K : Nat) (l78 : List S69) : Option (List S69) := lt ([] : List S69) fun a0 => (if (a0.length + l78.length) * 48 ≤ 140737488355328 then (lt (a0 ++ l78) fun a1 => (some a1)) else none)
set_option maxRecDepth 100000 in
theorem api_Record.calls {K : Nat} {l78 : List S69} {A79 : Option Addr} {C80 : Nat} {x95 : List S69} {B w : World} {os : List Ass} {rs : List Ro} (H : api_Record.f K l78 = some x95) (hS : St B w (os) (Ro.sl kS69 A79 C80 l78 :: rs)) :
  Calls Try.prog 54 [.slice A79 l78.length C80].toArray w (fun en w' => ∃ v, en = .returned v ∧ ∃ A96 : Option Addr, ∃ C97 : Nat, v = .slice A96 x95.length C97 ∧ St B w' (Ass.own 69 kS69 A96 C97 x95 :: os) (Ro.sl kS69 A79 C80 l78 :: rs)) := by
 unfold api_Record.f at H
 refine calls_of_EW (args := [.slice A79 l78.length C80]) (c := Cd54) 8 Try.func54 (by kernel_rfl) (by kernel_rfl) (by kernel_rfl) ?_
 refine EW.seq (x := Cd54.l) (y := Cd54.r) (by kernel_rfl) ?_
 refine EW.region (id := 0) (ops := Cd54.l.ops) (by kernel_rfl) ?_
 refine EL.quick 1 [0] [(0, .slice A79 l78.length C80)] (by kernel_rfl) ?_
 refine EL.done (by kernel_rfl) ?_
 refine EQ.code ?_
 refine EW.seq (x := Cd54.r.l) (y := Cd54.r.r) (by kernel_rfl) ?_
 refine EW.seq (x := Cd54.r.l.l) (y := Cd54.r.l.r) (by kernel_rfl) ?_
 refine EW.region (id := 1) (ops := Cd54.r.l.l.ops) (by kernel_rfl) ?_
 refine EL.quick 1 [0, 3] [(0, .slice A79 l78.length C80), (3, .slice A79 l78.length C80)] (by kernel_rfl) ?_
 rcases A79 with _ | a4
 ·have a7 := St.rd_nil hS (Rd.ro 0 rfl)
  have H : (some ([] : List S69)) = some x95 := by simpa [lt, a7] using H
  refine EL.quick 1 [0, 4] [(0, .slice none l78.length C80), (4, .bool (true))] (by kernel_rfl) ?_
  refine EL.done (by kernel_rfl) ?_
  refine EQ.code ?_
  refine EW.condT (o := (.tmp 4)) (x := Cd54.r.l.r.l) (y := Cd54.r.l.r.r) (by kernel_rfl) (by kernel_rfl) ?_
  refine EW.seq (x := Cd54.r.l.r.l.l) (y := Cd54.r.l.r.l.r) (by kernel_rfl) ?_
  refine EW.region (id := 2) (ops := Cd54.r.l.r.l.l.ops) (by kernel_rfl) ?_
  refine EL.quick 1 [2] [(2, .slice none ([] : List S69).length 0)] (by kernel_rfl) ?_
  refine EL.done (by kernel_rfl) ?_
  refine EQ.code ?_
  refine EW.ret (by kernel_rfl) ?_
  refine EQ.ret ?_
  have hS := St.nilO hS 69 kS69
  obtain rfl := Option.some.inj H
  exact EQ.leave (.slice none ([] : List S69).length 0) (by kernel_rfl) ⟨_, rfl, none, 0, rfl, (hS.re [0] [] rfl (sub_self))⟩
 ·refine EL.quick 1 [0, 4] [(0, .slice (some a4) l78.length C80), (4, .bool (false))] (by kernel_rfl) ?_
  refine EL.done (by kernel_rfl) ?_
  refine EQ.code ?_
  refine EW.condF (o := (.tmp 4)) (x := Cd54.r.l.r.l) (y := Cd54.r.l.r.r) (by kernel_rfl) (by kernel_rfl) ?_
  refine EW.skip (by kernel_rfl) ?_
  refine EQ.code ?_
  refine EW.seq (x := Cd54.r.r.l) (y := Cd54.r.r.r) (by kernel_rfl) ?_
  refine EW.region (id := 3) (ops := Cd54.r.r.l.ops) (by kernel_rfl) ?_
  obtain ⟨a0, a6, H⟩ := lt_out H
  refine EL.of (EO.lit hS kS69 69 64 0 #[] [] a0 5 (by kernel_rfl) (by kernel_rfl) (by kernel_rfl) (fun _ => (by kernel_rfl)) (by rw [a6]; rfl) (by kernel_rfl) (fun w G hr => (by rw [a6]; exact rfl)) ?_)
  intro a5 w hS
  refine EL.quick 1 [5, 6] [(5, .slice (some ⟨a5, 0, none⟩) a0.length 0), (6, .slice (some a4) l78.length C80)] (by kernel_rfl) ?_
  obtain ⟨a8, H⟩ := ite_in H
  obtain ⟨a1, a9, H⟩ := lt_out H
  refine EL.of (EO.append hS 64 64 69 48 0 kS69 (some ⟨a5, 0, none⟩) 0 a0 rfl (some a4) C80 l78 (Rd.ro 0 rfl) a1 a9 (fun a2 a3 => Ass.own 69 kS69 a2 a3 a1 :: os) 7 (by kernel_rfl) (by kernel_rfl) (by kernel_rfl) (by kernel_rfl) a8 (fun _ _ => rfl) ?_)
  intro a2 a3 w hS
  refine EL.quick 1 [2] [(2, .slice a2 a1.length a3)] (by kernel_rfl) ?_
  refine EL.done (by kernel_rfl) ?_
  refine EQ.code ?_
  refine EW.ret (by kernel_rfl) ?_
  obtain rfl := Option.some.inj H
  exact EQ.leave (.slice a2 a1.length a3) (by kernel_rfl) ⟨_, rfl, a2, a3, rfl, (hS.re [0] [] rfl (sub_self))⟩

/-! ### (*confidant/audit.Log).All: function 36 -/
def audit_Log_All.f (K : Nat) (l74 : List S69) : Option (List S69 × List S69) := b1 (api_Record.f K l74) fun (a0 : List S69) => (some (l74, a0))
set_option maxRecDepth 100000 in
theorem audit_Log_All.calls {K : Nat} {l74 : List S69} {g73 : Nat} {A75 : Option Addr} {C76 : Nat} {a3 : List S69} {a4 : List S69} {B w : World} {os : List Ass} {rs : List Ro} (H : audit_Log_All.f K l74 = some (a3, a4)) (hS : St B w (Ass.box 113 g73 [.slice A75 l74.length C76] :: Ass.own 69 kS69 A75 C76 l74 :: os) (rs)) :
  Calls Try.prog 36 [.pointer (some ⟨g73, 0, none⟩)].toArray w (fun en w' => ∃ v, en = .returned v ∧ ∃ a5 : Option Addr, ∃ a7 : Nat, ∃ a6 : Option Addr, ∃ a8 : Nat, v = .slice a6 a4.length a8 ∧ St B w' (Ass.box 113 g73 [.slice a5 a3.length a7] :: Ass.own 69 kS69 a6 a8 a4 :: os) (Ro.sl kS69 a5 a7 a3 :: rs)) := by
 unfold audit_Log_All.f at H
 refine calls_of_EW (args := [.pointer (some ⟨g73, 0, none⟩)]) (c := Cd36) 8 Try.func36 (by kernel_rfl) (by kernel_rfl) (by kernel_rfl) ?_
 refine EW.seq (x := Cd36.l) (y := Cd36.r) (by kernel_rfl) ?_
 refine EW.region (id := 0) (ops := Cd36.l.ops) (by kernel_rfl) ?_
 refine EL.quick 1 [0] [(0, .pointer (some ⟨g73, 0, none⟩))] (by kernel_rfl) ?_
 refine EL.done (by kernel_rfl) ?_
 refine EQ.code ?_
 refine EW.seq (x := Cd36.r.l) (y := Cd36.r.r) (by kernel_rfl) ?_
 refine EW.region (id := 1) (ops := Cd36.r.l.ops) (by kernel_rfl) ?_
 refine EL.quick 3 [5] [(5, .pointer (some ⟨g73, 0, none⟩))] (by kernel_rfl) ?_
 refine EL.of (EO.Y (YO.loadBox hS 0 rfl 64 0 1 (.slice A75 l74.length C76) 6 (by kernel_rfl) (by kernel_rfl) (by kernel_rfl) (by kernel_rfl)) ?_)
 have hS := St.fr hS 1 rfl
 have hS : St B _ (Ass.box 113 g73 [.slice A75 l74.length C76] :: os) (Ro.sl kS69 A75 C76 l74 :: Ro.sl kS69 A75 C76 l74 :: rs) := hS.re [] [] rfl (sub_cons 0 rfl sub_self)
 obtain ⟨a0, a9, H⟩ := b1_out H
 refine EL.of (EO.callD 54 [.slice A75 l74.length C76] _ 7 (by kernel_rfl) (by kernel_rfl) (by kernel_rfl) (api_Record.calls a9 hS) ?_)
 rintro v w ⟨a1, a2, rfl, hS⟩
 refine EL.quick 1 [2] [(2, .slice a1 a0.length a2)] (by kernel_rfl) ?_
 refine EL.done (by kernel_rfl) ?_
 refine EQ.code ?_
 refine EW.ret (by kernel_rfl) ?_
 simp only [Option.some.injEq, Prod.mk.injEq] at H
 obtain ⟨rfl, rfl⟩ := H
 exact EQ.leave (.slice a1 a0.length a2) (by kernel_rfl) ⟨_, rfl, A75, C76, a1, a2, rfl, (hS.re [0, 1] [] rfl (sub_cons 0 rfl (sub_tail (sub_tail (sub_self)))))⟩

/-! ### confidant/audit.Right: function 31 -/
def audit_Right.l0 (K : Nat) (a0 : List S69) : Nat → (List (Int × Int)) → Int → Int → Option Bool
 | 0, _, _, _ => none
 | n + 1, a6, a8, a1 => if a1 < (a0.length : Int) then (if 0 ≤ a1 then (lt (fun (b0 : Bool) => (if b0 = true then (some false) else (lt (mput a6 ((a0.getD a1.toNat zS69).f2) (IntKind.i64.wrap ((mget a6 ((a0.getD a1.toNat zS69).f2)) + 1))) fun b5 => (audit_Right.l0 K a0 n b5 ((a0.getD a1.toNat zS69).f4) (IntKind.i64.wrap (a1 + 1)))))) fun b1 => (if ((a0.getD a1.toNat zS69).f4) < a8 then (b1 true) else (if ((a0.getD a1.toNat zS69).f0) = (mget a6 ((a0.getD a1.toNat zS69).f2)) then (lt (mn (mn ((a0.getD a1.toNat zS69).f1) ((a0.getD a1.toNat zS69).f2)) (IntKind.i64.wrap ((a0.getD a1.toNat zS69).f5))) fun c0 => (b1 (decide ((mn (mn ((a0.getD a1.toNat zS69).f1) ((a0.getD a1.toNat zS69).f2)) (IntKind.i64.wrap ((a0.getD a1.toNat zS69).f5))) < 0)))) else (b1 true)))) else none) else (some true)
def audit_Right.f (K : Nat) (a0 : List S69) : Option Bool := audit_Right.l0 K a0 K ([] : List (Int × Int)) 0 0
set_option maxRecDepth 100000 in
theorem audit_Right.calls {K : Nat} {a0 : List S69} {a7 : Option Addr} {a4 : Nat} {b6 : Bool} {B w : World} {os : List Ass} {rs : List Ro} (H : audit_Right.f K a0 = some b6) (hS : St B w (os) (Ro.sl kS69 a7 a4 a0 :: rs)) :
  Calls Try.prog 31 [.slice a7 a0.length a4].toArray w (fun en w' => ∃ v, en = .returned v ∧ v = .bool (b6) ∧ St B w' (os) (Ro.sl kS69 a7 a4 a0 :: rs)) := by
 unfold audit_Right.f at H
 refine calls_of_EW (args := [.slice a7 a0.length a4]) (c := Cd31) 46 Try.func31 (by kernel_rfl) (by kernel_rfl) (by kernel_rfl) ?_
 refine EW.seq (x := Cd31.l) (y := Cd31.r) (by kernel_rfl) ?_
 refine EW.region (id := 0) (ops := Cd31.l.ops) (by kernel_rfl) ?_
 refine EL.quick 1 [0] [(0, .slice a7 a0.length a4)] (by kernel_rfl) ?_
 refine EL.done (by kernel_rfl) ?_
 refine EQ.code ?_
 refine EW.seq (x := Cd31.r.l) (y := Cd31.r.r) (by kernel_rfl) ?_
 refine EW.region (id := 1) (ops := Cd31.r.l.ops) (by kernel_rfl) ?_
 refine EL.of (EO.makeMap hS 114 .i64 .i64 7 (by kernel_rfl) (by kernel_rfl) (by kernel_rfl) ?_)
 intro b2 w hS
 refine EL.quick 2 [0, 3, 4] [(0, .slice a7 a0.length a4), (3, .map (mref b2)), (4, .int .i64 0)] (by kernel_rfl) ?_
 refine EL.done (by kernel_rfl) ?_
 refine EQ.code ?_
 refine EW.seq (x := Cd31.r.r.l) (y := Cd31.r.r.r) (by kernel_rfl) ?_
 refine EW.seq (x := Cd31.r.r.l.l) (y := Cd31.r.r.l.r) (by kernel_rfl) ?_
 refine EW.region (id := 2) (ops := Cd31.r.r.l.l.ops) (by kernel_rfl) ?_
 refine EL.quick 3 [3, 4, 8, 9, 10] [(3, .map (mref b2)), (4, .int .i64 0), (8, .slice a7 a0.length a4), (9, .int .i64 (a0.length : Int)), (10, .int .i64 0)] (by kernel_rfl) ?_
 refine EL.done (by kernel_rfl) ?_
 refine EQ.code ?_
 refine EW.block (x := Cd31.r.r.l.r.l) (id := 0) (by kernel_rfl) ?_
 refine EW.loop (x := Cd31.r.r.l.r.l.l) (fun n a w => ∃ a6 : List (Int × Int), ∃ a8 : Int, ∃ a1 : Int, ∃ a3 : Option Addr, ∃ b9 : Nat, Sat 46 [(3, .map (mref a3)), (4, .int .i64 a8), (8, .slice a7 a0.length a4), (9, .int .i64 (a0.length : Int)), (10, .int .i64 a1)] a ∧ St B w (Ass.mp .i64 .i64 a3 a6 :: os) (Ro.sl kS69 a7 a4 a0 :: rs) ∧ audit_Right.l0 K a0 n a6 a8 a1 = some b6) K (by kernel_rfl) ?_ (fun n a w hI => ?_)
 ·refine EQ.keep [3, 4, 8, 9, 10] [(3, .map (mref b2)), (4, .int .i64 0), (8, .slice a7 a0.length a4), (9, .int .i64 (a0.length : Int)), (10, .int .i64 0)] (by kernel_rfl) ?_
  exact fun a ha => ⟨([] : List (Int × Int)), 0, 0, b2, 0, ha, (hS.re [0] [] rfl (sub_cons 0 rfl (sub_tail (sub_self)))), H⟩
 ·obtain ⟨a6, a8, a1, a3, b9, ha, hS, H⟩ := hI
  obtain _ | n := n
  ·simp [audit_Right.l0] at H
  rw [audit_Right.l0.eq_2] at H
  refine EW.at ?_ a ha
  clear ha a
  refine EW.seq (x := Cd31.r.r.l.r.l.l.l) (y := Cd31.r.r.l.r.l.l.r) (by kernel_rfl) ?_
  refine EW.region (id := 3) (ops := Cd31.r.r.l.r.l.l.l.ops) (by kernel_rfl) ?_
  refine EL.quick 1 [3, 4, 8, 9, 10, 11] [(3, .map (mref a3)), (4, .int .i64 a8), (8, .slice a7 a0.length a4), (9, .int .i64 (a0.length : Int)), (10, .int .i64 a1), (11, .bool (decide (a1 < (a0.length : Int))))] (by kernel_rfl) ?_
  refine EL.done (by kernel_rfl) ?_
  refine EQ.code ?_
  refine EW.seq (x := Cd31.r.r.l.r.l.l.r.l) (y := Cd31.r.r.l.r.l.l.r.r) (by kernel_rfl) ?_
  refine EW.condP (o := (.tmp 11)) (x := Cd31.r.r.l.r.l.l.r.l.l) (y := Cd31.r.r.l.r.l.l.r.l.r) (a1 < (a0.length : Int)) (by kernel_rfl) (by kernel_rfl) (fun a9 => ?_) (fun a9 => ?_)
  ·rw [if_pos a9] at H
   refine EW.skip (by kernel_rfl) ?_
   refine EQ.code ?_
   refine EW.seq (x := Cd31.r.r.l.r.l.l.r.r.l) (y := Cd31.r.r.l.r.l.l.r.r.r) (by kernel_rfl) ?_
   refine EW.block (x := Cd31.r.r.l.r.l.l.r.r.l.l) (id := 1) (by kernel_rfl) ?_
   refine EW.seq (x := Cd31.r.r.l.r.l.l.r.r.l.l.l) (y := Cd31.r.r.l.r.l.l.r.r.l.l.r) (by kernel_rfl) ?_
   refine EW.region (id := 4) (ops := Cd31.r.r.l.r.l.l.r.r.l.l.l.ops) (by kernel_rfl) ?_
   obtain ⟨b7, H⟩ := ite_in H
   obtain ⟨a5, rfl⟩ := St.rd_some hS (Rd.ro 0 rfl) b7 a9
   refine EL.of (EO.Y (YO.idx 64 6 a5 a0.length a4 .i64 a1 12 (by kernel_rfl) (by kernel_rfl) (by kernel_rfl) (by kernel_rfl) b7 a9) ?_)
   refine EL.of (EO.Y (YO.loadEl hS kS69 a5 a4 a0 (Rd.ro 0 rfl) zS69 encS69 encS69_of a1 b7 a9 69 6 0 6 rfl (.agg #[.int .i64 ((a0.getD a1.toNat zS69).f0), .int .i64 ((a0.getD a1.toNat zS69).f1), .int .i64 ((a0.getD a1.toNat zS69).f2), .int .i32 ((a0.getD a1.toNat zS69).f3), .int .i64 ((a0.getD a1.toNat zS69).f4), .int .i32 ((a0.getD a1.toNat zS69).f5)]) 13 (by kernel_rfl) (by kernel_rfl) (by kernel_rfl) (by kernel_rfl)) ?_)
   refine EL.of (EO.alloc hS 69 (.agg #[.int .i64 0, .int .i64 0, .int .i64 0, .int .i32 0, .int .i64 0, .int .i32 0]) [.int .i64 0, .int .i64 0, .int .i64 0, .int .i32 0, .int .i64 0, .int .i32 0] 6 (by kernel_rfl) (by kernel_rfl) (by kernel_rfl) (by kernel_rfl) (by first | rfl | kernel_rfl) ?_)
   intro a2 w hS
   refine EL.of (EO.storeBox (os' := Ass.box 69 a2 [.int .i64 ((a0.getD a1.toNat zS69).f0), .int .i64 ((a0.getD a1.toNat zS69).f1), .int .i64 ((a0.getD a1.toNat zS69).f2), .int .i32 ((a0.getD a1.toNat zS69).f3), .int .i64 ((a0.getD a1.toNat zS69).f4), .int .i32 ((a0.getD a1.toNat zS69).f5)] :: Ass.mp .i64 .i64 a3 a6 :: os) hS 0 rfl 69 0 (.agg #[.int .i64 ((a0.getD a1.toNat zS69).f0), .int .i64 ((a0.getD a1.toNat zS69).f1), .int .i64 ((a0.getD a1.toNat zS69).f2), .int .i32 ((a0.getD a1.toNat zS69).f3), .int .i64 ((a0.getD a1.toNat zS69).f4), .int .i32 ((a0.getD a1.toNat zS69).f5)]) [.int .i64 ((a0.getD a1.toNat zS69).f0), .int .i64 ((a0.getD a1.toNat zS69).f1), .int .i64 ((a0.getD a1.toNat zS69).f2), .int .i32 ((a0.getD a1.toNat zS69).f3), .int .i64 ((a0.getD a1.toNat zS69).f4), .int .i32 ((a0.getD a1.toNat zS69).f5)] (by kernel_rfl) (by kernel_rfl) (by kernel_rfl) (by kernel_rfl) (by kernel_rfl) (by kernel_rfl) rfl rfl ?_)
   intro w hS
   refine EL.done (by kernel_rfl) ?_
   refine EQ.code ?_
   refine EW.seq (x := Cd31.r.r.l.r.l.l.r.r.l.l.r.l) (y := Cd31.r.r.l.r.l.l.r.r.l.l.r.r) (by kernel_rfl) ?_
   obtain ⟨b1, c1, H⟩ := lt_out H
   refine EW.cut (x := Cd31.r.r.l.r.l.l.r.r.l.l.r.l.l) (y := Cd31.r.r.l.r.l.l.r.r.l.l.r.l.r) (fun a w => ∃ b0 : Bool, Sat 46 [(3, .map (mref a3)), (6, .pointer (some ⟨a2, 0, none⟩)), (8, .slice (some a5) a0.length a4), (9, .int .i64 (a0.length : Int)), (10, .int .i64 a1), (37, .bool (b0))] a ∧ St B w (Ass.box 69 a2 [.int .i64 ((a0.getD a1.toNat zS69).f0), .int .i64 ((a0.getD a1.toNat zS69).f1), .int .i64 ((a0.getD a1.toNat zS69).f2), .int .i32 ((a0.getD a1.toNat zS69).f3), .int .i64 ((a0.getD a1.toNat zS69).f4), .int .i32 ((a0.getD a1.toNat zS69).f5)] :: Ass.mp .i64 .i64 a3 a6 :: os) (Ro.sl kS69 (some a5) a4 a0 :: rs) ∧ b1 b0 = some b6) (by kernel_rfl) ?_ (fun a w hI => ?_)
   ·refine EW.region (id := 5) (ops := Cd31.r.r.l.r.l.l.r.r.l.l.r.l.l.ops) (by kernel_rfl) ?_
    refine EL.quick 1 [3, 4, 6, 8, 9, 10, 14] [(3, .map (mref a3)), (4, .int .i64 a8), (6, .pointer (some ⟨a2, 0, none⟩)), (8, .slice (some a5) a0.length a4), (9, .int .i64 (a0.length : Int)), (10, .int .i64 a1), (14, .pointer (some ⟨a2, 4, none⟩))] (by kernel_rfl) ?_
    refine EL.of (EO.Y (YO.loadBox hS 0 rfl 3 4 1 (.int .i64 ((a0.getD a1.toNat zS69).f4)) 15 (by kernel_rfl) (by kernel_rfl) (by kernel_rfl) (by kernel_rfl)) ?_)
    refine EL.quick 3 [3, 6, 8, 9, 10, 18] [(3, .map (mref a3)), (6, .pointer (some ⟨a2, 0, none⟩)), (8, .slice (some a5) a0.length a4), (9, .int .i64 (a0.length : Int)), (10, .int .i64 a1), (18, .bool (decide (((a0.getD a1.toNat zS69).f4) < a8)))] (by kernel_rfl) ?_
    by_cases b3 : ((a0.getD a1.toNat zS69).f4) < a8
    ·rw [if_pos b3] at H
     refine EL.keep [3, 6, 8, 9, 10, 18] [(3, .map (mref a3)), (6, .pointer (some ⟨a2, 0, none⟩)), (8, .slice (some a5) a0.length a4), (9, .int .i64 (a0.length : Int)), (10, .int .i64 a1), (18, .bool (decide (((a0.getD a1.toNat zS69).f4) < a8)))] (by kernel_rfl) ?_
     refine EL.as' [(3, .map (mref a3)), (6, .pointer (some ⟨a2, 0, none⟩)), (8, .slice (some a5) a0.length a4), (9, .int .i64 (a0.length : Int)), (10, .int .i64 a1), (18, .bool (true))] (by simp only [dec_t b3, Bool.not_true, Bool.not_false]) ?_
     refine EL.quick 19 [3, 6, 8, 9, 10, 37] [(3, .map (mref a3)), (6, .pointer (some ⟨a2, 0, none⟩)), (8, .slice (some a5) a0.length a4), (9, .int .i64 (a0.length : Int)), (10, .int .i64 a1), (37, .bool (true))] (by kernel_rfl) ?_
     refine EL.done (by kernel_rfl) ?_
     refine EQ.to ?_
     refine EQ.keep [3, 6, 8, 9, 10, 37] [(3, .map (mref a3)), (6, .pointer (some ⟨a2, 0, none⟩)), (8, .slice (some a5) a0.length a4), (9, .int .i64 (a0.length : Int)), (10, .int .i64 a1), (37, .bool (true))] (by kernel_rfl) ?_
     exact fun a ha => ⟨true, ha, (hS.re [1, 1] [] rfl (sub_cons 0 rfl (sub_tail (sub_self)))), H⟩
    ·rw [if_neg b3] at H
     refine EL.keep [3, 6, 8, 9, 10, 18] [(3, .map (mref a3)), (6, .pointer (some ⟨a2, 0, none⟩)), (8, .slice (some a5) a0.length a4), (9, .int .i64 (a0.length : Int)), (10, .int .i64 a1), (18, .bool (decide (((a0.getD a1.toNat zS69).f4) < a8)))] (by kernel_rfl) ?_
     refine EL.as' [(3, .map (mref a3)), (6, .pointer (some ⟨a2, 0, none⟩)), (8, .slice (some a5) a0.length a4), (9, .int .i64 (a0.length : Int)), (10, .int .i64 a1), (18, .bool (false))] (by simp only [dec_f b3, Bool.not_true, Bool.not_false]) ?_
     refine EL.quick 1 [3, 6, 8, 9, 10, 18, 19] [(3, .map (mref a3)), (6, .pointer (some ⟨a2, 0, none⟩)), (8, .slice (some a5) a0.length a4), (9, .int .i64 (a0.length : Int)), (10, .int .i64 a1), (18, .bool (false)), (19, .pointer (some ⟨a2, 0, none⟩))] (by kernel_rfl) ?_
     refine EL.of (EO.Y (YO.loadBox hS 0 rfl 3 0 1 (.int .i64 ((a0.getD a1.toNat zS69).f0)) 20 (by kernel_rfl) (by kernel_rfl) (by kernel_rfl) (by kernel_rfl)) ?_)
     refine EL.quick 2 [3, 6, 8, 9, 10, 18, 19, 20, 21, 22] [(3, .map (mref a3)), (6, .pointer (some ⟨a2, 0, none⟩)), (8, .slice (some a5) a0.length a4), (9, .int .i64 (a0.length : Int)), (10, .int .i64 a1), (18, .bool (false)), (19, .pointer (some ⟨a2, 0, none⟩)), (20, .int .i64 ((a0.getD a1.toNat zS69).f0)), (21, .map (mref a3)), (22, .pointer (some ⟨a2, 2, none⟩))] (by kernel_rfl) ?_
     refine EL.of (EO.Y (YO.loadBox hS 0 rfl 3 2 1 (.int .i64 ((a0.getD a1.toNat zS69).f2)) 23 (by kernel_rfl) (by kernel_rfl) (by kernel_rfl) (by kernel_rfl)) ?_)
     refine EL.of (EO.Y (YO.mapGet hS 1 rfl .i64 114 3 3 ((a0.getD a1.toNat zS69).f2) 24 (by kernel_rfl) (by kernel_rfl) (by kernel_rfl) (by kernel_rfl) (by kernel_rfl) (by kernel_rfl)) ?_)
     refine EL.quick 3 [3, 6, 8, 9, 10, 19, 20, 21, 22, 23, 24, 25, 27] [(3, .map (mref a3)), (6, .pointer (some ⟨a2, 0, none⟩)), (8, .slice (some a5) a0.length a4), (9, .int .i64 (a0.length : Int)), (10, .int .i64 a1), (19, .pointer (some ⟨a2, 0, none⟩)), (20, .int .i64 ((a0.getD a1.toNat zS69).f0)), (21, .map (mref a3)), (22, .pointer (some ⟨a2, 2, none⟩)), (23, .int .i64 ((a0.getD a1.toNat zS69).f2)), (24, .int .i64 (mget a6 ((a0.getD a1.toNat zS69).f2))), (25, .bool (!(decide (((a0.getD a1.toNat zS69).f0) = (mget a6 ((a0.getD a1.toNat zS69).f2)))))), (27, .bool (!(decide (((a0.getD a1.toNat zS69).f0) = (mget a6 ((a0.getD a1.toNat zS69).f2))))))] (by kernel_rfl) ?_
     by_cases b4 : ((a0.getD a1.toNat zS69).f0) = (mget a6 ((a0.getD a1.toNat zS69).f2))
     ·rw [if_pos b4] at H
      refine EL.keep [3, 6, 8, 9, 10, 19, 20, 21, 22, 23, 24, 25, 27] [(3, .map (mref a3)), (6, .pointer (some ⟨a2, 0, none⟩)), (8, .slice (some a5) a0.length a4), (9, .int .i64 (a0.length : Int)), (10, .int .i64 a1), (19, .pointer (some ⟨a2, 0, none⟩)), (20, .int .i64 ((a0.getD a1.toNat zS69).f0)), (21, .map (mref a3)), (22, .pointer (some ⟨a2, 2, none⟩)), (23, .int .i64 ((a0.getD a1.toNat zS69).f2)), (24, .int .i64 (mget a6 ((a0.getD a1.toNat zS69).f2))), (25, .bool (!(decide (((a0.getD a1.toNat zS69).f0) = (mget a6 ((a0.getD a1.toNat zS69).f2)))))), (27, .bool (!(decide (((a0.getD a1.toNat zS69).f0) = (mget a6 ((a0.getD a1.toNat zS69).f2))))))] (by kernel_rfl) ?_
      refine EL.as' [(3, .map (mref a3)), (6, .pointer (some ⟨a2, 0, none⟩)), (8, .slice (some a5) a0.length a4), (9, .int .i64 (a0.length : Int)), (10, .int .i64 a1), (19, .pointer (some ⟨a2, 0, none⟩)), (20, .int .i64 ((a0.getD a1.toNat zS69).f0)), (21, .map (mref a3)), (22, .pointer (some ⟨a2, 2, none⟩)), (23, .int .i64 ((a0.getD a1.toNat zS69).f2)), (24, .int .i64 (mget a6 ((a0.getD a1.toNat zS69).f2))), (25, .bool (false)), (27, .bool (false))] (by simp only [dec_t b4, Bool.not_true, Bool.not_false]) ?_
      refine EL.quick 1 [3, 6, 8, 9, 10, 19, 20, 21, 22, 23, 24, 25, 27, 28] [(3, .map (mref a3)), (6, .pointer (some ⟨a2, 0, none⟩)), (8, .slice (some a5) a0.length a4), (9, .int .i64 (a0.length : Int)), (10, .int .i64 a1), (19, .pointer (some ⟨a2, 0, none⟩)), (20, .int .i64 ((a0.getD a1.toNat zS69).f0)), (21, .map (mref a3)), (22, .pointer (some ⟨a2, 2, none⟩)), (23, .int .i64 ((a0.getD a1.toNat zS69).f2)), (24, .int .i64 (mget a6 ((a0.getD a1.toNat zS69).f2))), (25, .bool (false)), (27, .bool (false)), (28, .pointer (some ⟨a2, 1, none⟩))] (by kernel_rfl) ?_
      refine EL.of (EO.Y (YO.loadBox hS 0 rfl 3 1 1 (.int .i64 ((a0.getD a1.toNat zS69).f1)) 29 (by kernel_rfl) (by kernel_rfl) (by kernel_rfl) (by kernel_rfl)) ?_)
      refine EL.quick 1 [3, 6, 8, 9, 10, 19, 20, 21, 22, 23, 24, 25, 27, 28, 29, 30] [(3, .map (mref a3)), (6, .pointer (some ⟨a2, 0, none⟩)), (8, .slice (some a5) a0.length a4), (9, .int .i64 (a0.length : Int)), (10, .int .i64 a1), (19, .pointer (some ⟨a2, 0, none⟩)), (20, .int .i64 ((a0.getD a1.toNat zS69).f0)), (21, .map (mref a3)), (22, .pointer (some ⟨a2, 2, none⟩)), (23, .int .i64 ((a0.getD a1.toNat zS69).f2)), (24, .int .i64 (mget a6 ((a0.getD a1.toNat zS69).f2))), (25, .bool (false)), (27, .bool (false)), (28, .pointer (some ⟨a2, 1, none⟩)), (29, .int .i64 ((a0.getD a1.toNat zS69).f1)), (30, .pointer (some ⟨a2, 2, none⟩))] (by kernel_rfl) ?_
      refine EL.of (EO.Y (YO.loadBox hS 0 rfl 3 2 1 (.int .i64 ((a0.getD a1.toNat zS69).f2)) 31 (by kernel_rfl) (by kernel_rfl) (by kernel_rfl) (by kernel_rfl)) ?_)
      refine EL.quick 1 [3, 6, 8, 9, 10, 19, 20, 21, 22, 23, 24, 25, 27, 28, 29, 30, 31, 32] [(3, .map (mref a3)), (6, .pointer (some ⟨a2, 0, none⟩)), (8, .slice (some a5) a0.length a4), (9, .int .i64 (a0.length : Int)), (10, .int .i64 a1), (19, .pointer (some ⟨a2, 0, none⟩)), (20, .int .i64 ((a0.getD a1.toNat zS69).f0)), (21, .map (mref a3)), (22, .pointer (some ⟨a2, 2, none⟩)), (23, .int .i64 ((a0.getD a1.toNat zS69).f2)), (24, .int .i64 (mget a6 ((a0.getD a1.toNat zS69).f2))), (25, .bool (false)), (27, .bool (false)), (28, .pointer (some ⟨a2, 1, none⟩)), (29, .int .i64 ((a0.getD a1.toNat zS69).f1)), (30, .pointer (some ⟨a2, 2, none⟩)), (31, .int .i64 ((a0.getD a1.toNat zS69).f2)), (32, .pointer (some ⟨a2, 5, none⟩))] (by kernel_rfl) ?_
      refine EL.of (EO.Y (YO.loadBox hS 0 rfl 21 5 1 (.int .i32 ((a0.getD a1.toNat zS69).f5)) 33 (by kernel_rfl) (by kernel_rfl) (by kernel_rfl) (by kernel_rfl)) ?_)
      refine EL.quick 4 [3, 6, 8, 9, 10, 19, 20, 21, 22, 23, 24, 25, 28, 29, 30, 31, 32, 33, 34, 35, 36, 37] [(3, .map (mref a3)), (6, .pointer (some ⟨a2, 0, none⟩)), (8, .slice (some a5) a0.length a4), (9, .int .i64 (a0.length : Int)), (10, .int .i64 a1), (19, .pointer (some ⟨a2, 0, none⟩)), (20, .int .i64 ((a0.getD a1.toNat zS69).f0)), (21, .map (mref a3)), (22, .pointer (some ⟨a2, 2, none⟩)), (23, .int .i64 ((a0.getD a1.toNat zS69).f2)), (24, .int .i64 (mget a6 ((a0.getD a1.toNat zS69).f2))), (25, .bool (false)), (28, .pointer (some ⟨a2, 1, none⟩)), (29, .int .i64 ((a0.getD a1.toNat zS69).f1)), (30, .pointer (some ⟨a2, 2, none⟩)), (31, .int .i64 ((a0.getD a1.toNat zS69).f2)), (32, .pointer (some ⟨a2, 5, none⟩)), (33, .int .i32 ((a0.getD a1.toNat zS69).f5)), (34, .int .i64 (IntKind.i64.wrap ((a0.getD a1.toNat zS69).f5))), (35, .int .i64 (mn (mn ((a0.getD a1.toNat zS69).f1) ((a0.getD a1.toNat zS69).f2)) (IntKind.i64.wrap ((a0.getD a1.toNat zS69).f5)))), (36, .bool (decide ((mn (mn ((a0.getD a1.toNat zS69).f1) ((a0.getD a1.toNat zS69).f2)) (IntKind.i64.wrap ((a0.getD a1.toNat zS69).f5))) < 0))), (37, .bool (decide ((mn (mn ((a0.getD a1.toNat zS69).f1) ((a0.getD a1.toNat zS69).f2)) (IntKind.i64.wrap ((a0.getD a1.toNat zS69).f5))) < 0)))] (by kernel_rfl) ?_
      obtain ⟨c0, c3, H⟩ := lt_out H
      refine EL.keep [3, 6, 8, 9, 10, 19, 20, 21, 22, 23, 24, 25, 28, 29, 30, 31, 32, 33, 34, 35, 36, 37] [(3, .map (mref a3)), (6, .pointer (some ⟨a2, 0, none⟩)), (8, .slice (some a5) a0.length a4), (9, .int .i64 (a0.length : Int)), (10, .int .i64 a1), (19, .pointer (some ⟨a2, 0, none⟩)), (20, .int .i64 ((a0.getD a1.toNat zS69).f0)), (21, .map (mref a3)), (22, .pointer (some ⟨a2, 2, none⟩)), (23, .int .i64 ((a0.getD a1.toNat zS69).f2)), (24, .int .i64 (mget a6 ((a0.getD a1.toNat zS69).f2))), (25, .bool (false)), (28, .pointer (some ⟨a2, 1, none⟩)), (29, .int .i64 ((a0.getD a1.toNat zS69).f1)), (30, .pointer (some ⟨a2, 2, none⟩)), (31, .int .i64 ((a0.getD a1.toNat zS69).f2)), (32, .pointer (some ⟨a2, 5, none⟩)), (33, .int .i32 ((a0.getD a1.toNat zS69).f5)), (34, .int .i64 (IntKind.i64.wrap ((a0.getD a1.toNat zS69).f5))), (35, .int .i64 (mn (mn ((a0.getD a1.toNat zS69).f1) ((a0.getD a1.toNat zS69).f2)) (IntKind.i64.wrap ((a0.getD a1.toNat zS69).f5)))), (36, .bool (decide ((mn (mn ((a0.getD a1.toNat zS69).f1) ((a0.getD a1.toNat zS69).f2)) (IntKind.i64.wrap ((a0.getD a1.toNat zS69).f5))) < 0))), (37, .bool (decide ((mn (mn ((a0.getD a1.toNat zS69).f1) ((a0.getD a1.toNat zS69).f2)) (IntKind.i64.wrap ((a0.getD a1.toNat zS69).f5))) < 0)))] (by kernel_rfl) ?_
      refine EL.as' [(3, .map (mref a3)), (6, .pointer (some ⟨a2, 0, none⟩)), (8, .slice (some a5) a0.length a4), (9, .int .i64 (a0.length : Int)), (10, .int .i64 a1), (19, .pointer (some ⟨a2, 0, none⟩)), (20, .int .i64 ((a0.getD a1.toNat zS69).f0)), (21, .map (mref a3)), (22, .pointer (some ⟨a2, 2, none⟩)), (23, .int .i64 ((a0.getD a1.toNat zS69).f2)), (24, .int .i64 (mget a6 ((a0.getD a1.toNat zS69).f2))), (25, .bool (false)), (28, .pointer (some ⟨a2, 1, none⟩)), (29, .int .i64 ((a0.getD a1.toNat zS69).f1)), (30, .pointer (some ⟨a2, 2, none⟩)), (31, .int .i64 ((a0.getD a1.toNat zS69).f2)), (32, .pointer (some ⟨a2, 5, none⟩)), (33, .int .i32 ((a0.getD a1.toNat zS69).f5)), (34, .int .i64 (IntKind.i64.wrap ((a0.getD a1.toNat zS69).f5))), (35, .int .i64 c0), (36, .bool (decide ((mn (mn ((a0.getD a1.toNat zS69).f1) ((a0.getD a1.toNat zS69).f2)) (IntKind.i64.wrap ((a0.getD a1.toNat zS69).f5))) < 0))), (37, .bool (decide ((mn (mn ((a0.getD a1.toNat zS69).f1) ((a0.getD a1.toNat zS69).f2)) (IntKind.i64.wrap ((a0.getD a1.toNat zS69).f5))) < 0)))] (by subst c3; rfl) ?_
      refine EL.done (by kernel_rfl) ?_
      refine EQ.to ?_
      refine EQ.keep [3, 6, 8, 9, 10, 37] [(3, .map (mref a3)), (6, .pointer (some ⟨a2, 0, none⟩)), (8, .slice (some a5) a0.length a4), (9, .int .i64 (a0.length : Int)), (10, .int .i64 a1), (37, .bool (decide ((mn (mn ((a0.getD a1.toNat zS69).f1) ((a0.getD a1.toNat zS69).f2)) (IntKind.i64.wrap ((a0.getD a1.toNat zS69).f5))) < 0)))] (by kernel_rfl) ?_
      exact fun a ha => ⟨decide ((mn (mn ((a0.getD a1.toNat zS69).f1) ((a0.getD a1.toNat zS69).f2)) (IntKind.i64.wrap ((a0.getD a1.toNat zS69).f5))) < 0), ha, (hS.re [1, 1] [] rfl (sub_cons 0 rfl (sub_tail (sub_self)))), H⟩
     ·rw [if_neg b4] at H
      refine EL.keep [3, 6, 8, 9, 10, 19, 20, 21, 22, 23, 24, 25, 27] [(3, .map (mref a3)), (6, .pointer (some ⟨a2, 0, none⟩)), (8, .slice (some a5) a0.length a4), (9, .int .i64 (a0.length : Int)), (10, .int .i64 a1), (19, .pointer (some ⟨a2, 0, none⟩)), (20, .int .i64 ((a0.getD a1.toNat zS69).f0)), (21, .map (mref a3)), (22, .pointer (some ⟨a2, 2, none⟩)), (23, .int .i64 ((a0.getD a1.toNat zS69).f2)), (24, .int .i64 (mget a6 ((a0.getD a1.toNat zS69).f2))), (25, .bool (!(decide (((a0.getD a1.toNat zS69).f0) = (mget a6 ((a0.getD a1.toNat zS69).f2)))))), (27, .bool (!(decide (((a0.getD a1.toNat zS69).f0) = (mget a6 ((a0.getD a1.toNat zS69).f2))))))] (by kernel_rfl) ?_
      refine EL.as' [(3, .map (mref a3)), (6, .pointer (some ⟨a2, 0, none⟩)), (8, .slice (some a5) a0.length a4), (9, .int .i64 (a0.length : Int)), (10, .int .i64 a1), (19, .pointer (some ⟨a2, 0, none⟩)), (20, .int .i64 ((a0.getD a1.toNat zS69).f0)), (21, .map (mref a3)), (22, .pointer (some ⟨a2, 2, none⟩)), (23, .int .i64 ((a0.getD a1.toNat zS69).f2)), (24, .int .i64 (mget a6 ((a0.getD a1.toNat zS69).f2))), (25, .bool (true)), (27, .bool (true))] (by simp only [dec_f b4, Bool.not_true, Bool.not_false]) ?_
      refine EL.quick 10 [3, 6, 8, 9, 10, 19, 20, 21, 22, 23, 24, 25, 37] [(3, .map (mref a3)), (6, .pointer (some ⟨a2, 0, none⟩)), (8, .slice (some a5) a0.length a4), (9, .int .i64 (a0.length : Int)), (10, .int .i64 a1), (19, .pointer (some ⟨a2, 0, none⟩)), (20, .int .i64 ((a0.getD a1.toNat zS69).f0)), (21, .map (mref a3)), (22, .pointer (some ⟨a2, 2, none⟩)), (23, .int .i64 ((a0.getD a1.toNat zS69).f2)), (24, .int .i64 (mget a6 ((a0.getD a1.toNat zS69).f2))), (25, .bool (true)), (37, .bool (true))] (by kernel_rfl) ?_
      refine EL.done (by kernel_rfl) ?_
      refine EQ.to ?_
      refine EQ.keep [3, 6, 8, 9, 10, 37] [(3, .map (mref a3)), (6, .pointer (some ⟨a2, 0, none⟩)), (8, .slice (some a5) a0.length a4), (9, .int .i64 (a0.length : Int)), (10, .int .i64 a1), (37, .bool (true))] (by kernel_rfl) ?_
      exact fun a ha => ⟨true, ha, (hS.re [1, 1] [] rfl (sub_cons 0 rfl (sub_tail (sub_self)))), H⟩
   ·obtain ⟨b0, ha, hS, H⟩ := hI
    rw [c1] at H
    (try dsimp only at H)
    refine EW.at ?_ a ha
    clear ha a
    refine EW.condP' (o := (.tmp 37)) (x := Cd31.r.r.l.r.l.l.r.r.l.l.r.l.r.l) (y := Cd31.r.r.l.r.l.l.r.r.l.l.r.l.r.r) (b0) (by kernel_rfl) (by kernel_rfl) (fun b8 => ?_) (fun b8 => ?_)
    ·rw [if_pos b8] at H
     refine EW.seq (x := Cd31.r.r.l.r.l.l.r.r.l.l.r.l.r.l.l) (y := Cd31.r.r.l.r.l.l.r.r.l.l.r.l.r.l.r) (by kernel_rfl) ?_
     refine EW.region (id := 6) (ops := Cd31.r.r.l.r.l.l.r.r.l.l.r.l.r.l.l.ops) (by kernel_rfl) ?_
     refine EL.quick 1 [2] [(2, .bool (false))] (by kernel_rfl) ?_
     refine EL.done (by kernel_rfl) ?_
     refine EQ.code ?_
     refine EW.ret (by kernel_rfl) ?_
     refine EQ.ret ?_
     refine EQ.ret ?_
     refine EQ.ret ?_
     refine EQ.ret ?_
     refine EQ.ret ?_
     refine EQ.ret ?_
     obtain rfl := Option.some.inj H
     exact EQ.leave (.bool (false)) (by kernel_rfl) ⟨_, rfl, rfl, (hS.re [] [0, 0] rfl (sub_self))⟩
    ·rw [if_neg b8] at H
     refine EW.skip (by kernel_rfl) ?_
     refine EQ.code ?_
     refine EW.seq (x := Cd31.r.r.l.r.l.l.r.r.l.l.r.r.l) (y := Cd31.r.r.l.r.l.l.r.r.l.l.r.r.r) (by kernel_rfl) ?_
     refine EW.region (id := 7) (ops := Cd31.r.r.l.r.l.l.r.r.l.l.r.r.l.ops) (by kernel_rfl) ?_
     refine EL.quick 1 [3, 6, 8, 9, 10, 38] [(3, .map (mref a3)), (6, .pointer (some ⟨a2, 0, none⟩)), (8, .slice (some a5) a0.length a4), (9, .int .i64 (a0.length : Int)), (10, .int .i64 a1), (38, .pointer (some ⟨a2, 4, none⟩))] (by kernel_rfl) ?_
     refine EL.of (EO.Y (YO.loadBox hS 0 rfl 3 4 1 (.int .i64 ((a0.getD a1.toNat zS69).f4)) 39 (by kernel_rfl) (by kernel_rfl) (by kernel_rfl) (by kernel_rfl)) ?_)
     refine EL.quick 1 [3, 4, 6, 8, 9, 10] [(3, .map (mref a3)), (4, .int .i64 ((a0.getD a1.toNat zS69).f4)), (6, .pointer (some ⟨a2, 0, none⟩)), (8, .slice (some a5) a0.length a4), (9, .int .i64 (a0.length : Int)), (10, .int .i64 a1)] (by kernel_rfl) ?_
     refine EL.done (by kernel_rfl) ?_
     refine EQ.code ?_
     refine EW.region (id := 8) (ops := Cd31.r.r.l.r.l.l.r.r.l.l.r.r.r.ops) (by kernel_rfl) ?_
     refine EL.quick 2 [3, 4, 8, 9, 10, 40, 41] [(3, .map (mref a3)), (4, .int .i64 ((a0.getD a1.toNat zS69).f4)), (8, .slice (some a5) a0.length a4), (9, .int .i64 (a0.length : Int)), (10, .int .i64 a1), (40, .map (mref a3)), (41, .pointer (some ⟨a2, 2, none⟩))] (by kernel_rfl) ?_
     refine EL.of (EO.Y (YO.loadBox hS 0 rfl 3 2 1 (.int .i64 ((a0.getD a1.toNat zS69).f2)) 42 (by kernel_rfl) (by kernel_rfl) (by kernel_rfl) (by kernel_rfl)) ?_)
     refine EL.of (EO.Y (YO.mapGet hS 1 rfl .i64 114 3 3 ((a0.getD a1.toNat zS69).f2) 43 (by kernel_rfl) (by kernel_rfl) (by kernel_rfl) (by kernel_rfl) (by kernel_rfl) (by kernel_rfl)) ?_)
     refine EL.quick 1 [3, 4, 8, 9, 10, 40, 42, 44] [(3, .map (mref a3)), (4, .int .i64 ((a0.getD a1.toNat zS69).f4)), (8, .slice (some a5) a0.length a4), (9, .int .i64 (a0.length : Int)), (10, .int .i64 a1), (40, .map (mref a3)), (42, .int .i64 ((a0.getD a1.toNat zS69).f2)), (44, .int .i64 (IntKind.i64.wrap ((mget a6 ((a0.getD a1.toNat zS69).f2)) + 1)))] (by kernel_rfl) ?_
     obtain ⟨b5, c2, H⟩ := lt_out H
     refine EL.of (EO.mapPut hS 1 rfl .i64 114 3 3 ((a0.getD a1.toNat zS69).f2) (IntKind.i64.wrap ((mget a6 ((a0.getD a1.toNat zS69).f2)) + 1)) (Ass.box 69 a2 [.int .i64 ((a0.getD a1.toNat zS69).f0), .int .i64 ((a0.getD a1.toNat zS69).f1), .int .i64 ((a0.getD a1.toNat zS69).f2), .int .i32 ((a0.getD a1.toNat zS69).f3), .int .i64 ((a0.getD a1.toNat zS69).f4), .int .i32 ((a0.getD a1.toNat zS69).f5)] :: Ass.mp .i64 .i64 a3 b5 :: os) (by kernel_rfl) (by kernel_rfl) (by kernel_rfl) (by kernel_rfl) (by kernel_rfl) c2 rfl ?_)
     intro w hS
     refine EL.done (by kernel_rfl) ?_
     refine EQ.pop ?_
     refine EQ.code ?_
     refine EW.region (id := 9) (ops := Cd31.r.r.l.r.l.l.r.r.r.ops) (by kernel_rfl) ?_
     refine EL.quick 2 [3, 4, 8, 9, 10] [(3, .map (mref a3)), (4, .int .i64 ((a0.getD a1.toNat zS69).f4)), (8, .slice (some a5) a0.length a4), (9, .int .i64 (a0.length : Int)), (10, .int .i64 (IntKind.i64.wrap (a1 + 1)))] (by kernel_rfl) ?_
     refine EL.done (by kernel_rfl) ?_
     refine EQ.to ?_
     refine EQ.keep [3, 4, 8, 9, 10] [(3, .map (mref a3)), (4, .int .i64 ((a0.getD a1.toNat zS69).f4)), (8, .slice (some a5) a0.length a4), (9, .int .i64 (a0.length : Int)), (10, .int .i64 (IntKind.i64.wrap (a1 + 1)))] (by kernel_rfl) ?_
     exact fun a ha => ⟨n, Nat.lt_succ_self n, b5, (a0.getD a1.toNat zS69).f4, IntKind.i64.wrap (a1 + 1), a3, b9, ha, (hS.re [1] [1] rfl (sub_cons 0 rfl (sub_tail (sub_self)))), H⟩
  ·rw [if_neg a9] at H
   refine EW.exit (id := 0) (by kernel_rfl) ?_
   refine EQ.exitCode ?_
   refine EQ.exitTo ?_
   refine EQ.exitHere ?_
   refine EQ.code ?_
   refine EW.seq (x := Cd31.r.r.r.l) (y := Cd31.r.r.r.r) (by kernel_rfl) ?_
   refine EW.region (id := 10) (ops := Cd31.r.r.r.l.ops) (by kernel_rfl) ?_
   refine EL.quick 1 [2] [(2, .bool (true))] (by kernel_rfl) ?_
   refine EL.done (by kernel_rfl) ?_
   refine EQ.code ?_
   refine EW.ret (by kernel_rfl) ?_
   obtain rfl := Option.some.inj H
   exact EQ.leave (.bool (true)) (by kernel_rfl) ⟨_, rfl, rfl, (hS.re [] [0] rfl (sub_self))⟩

/-! ### confidant/pack.Put: function 51 -/
def pack_Put.l2 (K : Nat) (a0 : List Int) (a1 : Int) (b9 : (List Int) → Option (List Int)) : Nat → (List Int) → Int → Option (List Int)
 | 0, _, _ => none
 | n + 1, b0, a5 => if a5 > 0 then (if (IntKind.i64.wrap (7 * a5)) < 0 then none else (lt ([bO .u8 (IntKind.u8.wrap (sR .u64 (a0.getD a1.toNat 0) (IntKind.i64.wrap (7 * a5)))) 128] : List Int) fun c7 => (if (b0.length + c7.length) * 1 ≤ 140737488355328 then (lt (b0 ++ c7) fun b6 => (pack_Put.l2 K a0 a1 b9 n b6 (IntKind.i64.wrap (a5 - 1)))) else none))) else (b9 b0)
def pack_Put.l1 (K : Nat) (a0 : List Int) (a1 : Int) (b8 : Int → Option (List Int)) : Nat → Int → Option (List Int)
 | 0, _ => none
 | n + 1, a8 => if (IntKind.i64.wrap (7 * (IntKind.i64.wrap (a8 + 1)))) < 0 then none else (if (sR .u64 (a0.getD a1.toNat 0) (IntKind.i64.wrap (7 * (IntKind.i64.wrap (a8 + 1))))) = 0 then (b8 a8) else (pack_Put.l1 K a0 a1 b8 n (IntKind.i64.wrap (a8 + 1))))
def pack_Put.l0 (K : Nat) (a0 : List Int) : Nat → (List Int) → Int → Option (List Int)
 | 0, _, _ => none
 | n + 1, a4, a1 => if a1 < (a0.length : Int) then (lt (fun (d2 : List Int) (b4 : List Int) => (pack_Put.l0 K a0 n b4 (IntKind.i64.wrap (a1 + 1)))) fun d7 => (if 0 ≤ a1 then (lt (fun (c1 : Int) => (lt (fun (b5 : List Int) => (lt ([bN .u8 (IntKind.u8.wrap (a0.getD a1.toNat 0)) 128] : List Int) fun b7 => (if (b5.length + b7.length) * 1 ≤ 140737488355328 then (lt (b5 ++ b7) fun c0 => (d7 b7 c0)) else none))) fun b9 => (pack_Put.l2 K a0 a1 b9 K a4 c1))) fun b8 => (pack_Put.l1 K a0 a1 b8 K 0)) else none)) else (some a4)
def pack_Put.f (K : Nat) (a0 : List Int) : Option (List Int) := pack_Put.l0 K a0 K ([] : List Int) 0
set_option maxRecDepth 100000 in
theorem pack_Put.calls {K : Nat} {a0 : List Int} {a9 : Option Addr} {a2 : Nat} {b3 : List Int} {B w : World} {os : List Ass} {rs : List Ro} (H : pack_Put.f K a0 = some b3) (hS : St B w (os) (Ro.sl (Kd.int .u64) a9 a2 a0 :: rs)) :
  Calls Try.prog 51 [.slice a9 a0.length a2].toArray w (fun en w' => ∃ v, en = .returned v ∧ ∃ d8 : Option Addr, ∃ e0 : Nat, v = .slice d8 b3.length e0 ∧ St B w' (Ass.own 5 (Kd.int .u8) d8 e0 b3 :: os) (Ro.sl (Kd.int .u64) a9 a2 a0 :: rs)) := by
 unfold pack_Put.f at H
 refine calls_of_EW (args := [.slice a9 a0.length a2]) (c := Cd51) 42 Try.func51 (by kernel_rfl) (by kernel_rfl) (by kernel_rfl) ?_
 refine EW.seq (x := Cd51.l) (y := Cd51.r) (by kernel_rfl) ?_
 refine EW.region (id := 0) (ops := Cd51.l.ops) (by kernel_rfl) ?_
 refine EL.quick 1 [0] [(0, .slice a9 a0.length a2)] (by kernel_rfl) ?_
 refine EL.done (by kernel_rfl) ?_
 refine EQ.code ?_
 refine EW.seq (x := Cd51.r.l) (y := Cd51.r.r) (by kernel_rfl) ?_
 refine EW.region (id := 1) (ops := Cd51.r.l.ops) (by kernel_rfl) ?_
 refine EL.quick 1 [0, 3] [(0, .slice a9 a0.length a2), (3, .slice none ([] : List Int).length 0)] (by kernel_rfl) ?_
 refine EL.done (by kernel_rfl) ?_
 refine EQ.code ?_
 refine EW.seq (x := Cd51.r.r.l) (y := Cd51.r.r.r) (by kernel_rfl) ?_
 refine EW.seq (x := Cd51.r.r.l.l) (y := Cd51.r.r.l.r) (by kernel_rfl) ?_
 refine EW.region (id := 2) (ops := Cd51.r.r.l.l.ops) (by kernel_rfl) ?_
 refine EL.quick 3 [3, 7, 8, 9] [(3, .slice none ([] : List Int).length 0), (7, .slice a9 a0.length a2), (8, .int .i64 (a0.length : Int)), (9, .int .i64 0)] (by kernel_rfl) ?_
 refine EL.done (by kernel_rfl) ?_
 refine EQ.code ?_
 refine EW.block (x := Cd51.r.r.l.r.l) (id := 0) (by kernel_rfl) ?_
 have hS := St.nilO hS 5 (Kd.int .u8)
 refine EW.loop (x := Cd51.r.r.l.r.l.l) (fun n a w => ∃ a4 : List Int, ∃ a1 : Int, ∃ a6 : Option Addr, ∃ a7 : Nat, Sat 42 [(3, .slice a6 a4.length a7), (7, .slice a9 a0.length a2), (8, .int .i64 (a0.length : Int)), (9, .int .i64 a1)] a ∧ St B w (Ass.own 5 (Kd.int .u8) a6 a7 a4 :: os) (Ro.sl (Kd.int .u64) a9 a2 a0 :: rs) ∧ pack_Put.l0 K a0 n a4 a1 = some b3) K (by kernel_rfl) ?_ (fun n a w hI => ?_)
 ·refine EQ.keep [3, 7, 8, 9] [(3, .slice none ([] : List Int).length 0), (7, .slice a9 a0.length a2), (8, .int .i64 (a0.length : Int)), (9, .int .i64 0)] (by kernel_rfl) ?_
  exact fun a ha => ⟨([] : List Int), 0, none, 0, ha, (hS.re [0] [] rfl (sub_cons 0 rfl (sub_tail (sub_self)))), H⟩
 ·obtain ⟨a4, a1, a6, a7, ha, hS, H⟩ := hI
  obtain _ | n := n
  ·simp [pack_Put.l0] at H
  rw [pack_Put.l0.eq_2] at H
  refine EW.at ?_ a ha
  clear ha a
  refine EW.seq (x := Cd51.r.r.l.r.l.l.l) (y := Cd51.r.r.l.r.l.l.r) (by kernel_rfl) ?_
  refine EW.region (id := 3) (ops := Cd51.r.r.l.r.l.l.l.ops) (by kernel_rfl) ?_
  refine EL.quick 1 [3, 7, 8, 9, 10] [(3, .slice a6 a4.length a7), (7, .slice a9 a0.length a2), (8, .int .i64 (a0.length : Int)), (9, .int .i64 a1), (10, .bool (decide (a1 < (a0.length : Int))))] (by kernel_rfl) ?_
  refine EL.done (by kernel_rfl) ?_
  refine EQ.code ?_
  refine EW.seq (x := Cd51.r.r.l.r.l.l.r.l) (y := Cd51.r.r.l.r.l.l.r.r) (by kernel_rfl) ?_
  refine EW.condP (o := (.tmp 10)) (x := Cd51.r.r.l.r.l.l.r.l.l) (y := Cd51.r.r.l.r.l.l.r.l.r) (a1 < (a0.length : Int)) (by kernel_rfl) (by kernel_rfl) (fun c6 => ?_) (fun c6 => ?_)
  ·rw [if_pos c6] at H
   refine EW.skip (by kernel_rfl) ?_
   refine EQ.code ?_
   obtain ⟨d7, e9, H⟩ := lt_out H
   refine EW.cut (x := Cd51.r.r.l.r.l.l.r.r.l) (y := Cd51.r.r.l.r.l.l.r.r.r) (fun a w => ∃ d2 : List Int, ∃ b4 : List Int, ∃ d9 : Option Addr, ∃ e1 : Nat, ∃ c2 : Option Addr, ∃ c4 : Nat, Sat 42 [(3, .slice c2 b4.length c4), (7, .slice a9 a0.length a2), (8, .int .i64 (a0.length : Int)), (9, .int .i64 a1)] a ∧ St B w (Ass.own 5 (Kd.int .u8) d9 e1 d2 :: Ass.own 5 (Kd.int .u8) c2 c4 b4 :: os) (Ro.sl (Kd.int .u64) a9 a2 a0 :: rs) ∧ d7 d2 b4 = some b3) (by kernel_rfl) ?_ (fun a w hI => ?_)
   ·refine EW.block (x := Cd51.r.r.l.r.l.l.r.r.l.l) (id := 1) (by kernel_rfl) ?_
    refine EW.seq (x := Cd51.r.r.l.r.l.l.r.r.l.l.l) (y := Cd51.r.r.l.r.l.l.r.r.l.l.r) (by kernel_rfl) ?_
    refine EW.region (id := 4) (ops := Cd51.r.r.l.r.l.l.r.r.l.l.l.ops) (by kernel_rfl) ?_
    obtain ⟨d4, H⟩ := ite_in H
    obtain ⟨a3, rfl⟩ := St.rd_some hS (Rd.ro 0 rfl) d4 c6
    refine EL.of (EO.Y (YO.idx 134 1 a3 a0.length a2 .i64 a1 11 (by kernel_rfl) (by kernel_rfl) (by kernel_rfl) (by kernel_rfl) d4 c6) ?_)
    refine EL.of (EO.Y (YO.loadEl hS (Kd.int .u64) a3 a2 a0 (Rd.ro 0 rfl) 0 (encI .u64) encI_of a1 d4 c6 116 1 0 1 rfl (.int .u64 (a0.getD a1.toNat 0)) 12 (by kernel_rfl) (by kernel_rfl) (by kernel_rfl) (by kernel_rfl)) ?_)
    refine EL.quick 1 [3, 5, 7, 8, 9] [(3, .slice a6 a4.length a7), (5, .int .u64 (a0.getD a1.toNat 0)), (7, .slice (some a3) a0.length a2), (8, .int .i64 (a0.length : Int)), (9, .int .i64 a1)] (by kernel_rfl) ?_
    refine EL.done (by kernel_rfl) ?_
    refine EQ.code ?_
    refine EW.seq (x := Cd51.r.r.l.r.l.l.r.r.l.l.r.l) (y := Cd51.r.r.l.r.l.l.r.r.l.l.r.r) (by kernel_rfl) ?_
    refine EW.region (id := 5) (ops := Cd51.r.r.l.r.l.l.r.r.l.l.r.l.ops) (by kernel_rfl) ?_
    refine EL.quick 1 [3, 5, 6, 7, 8, 9] [(3, .slice a6 a4.length a7), (5, .int .u64 (a0.getD a1.toNat 0)), (6, .int .i64 0), (7, .slice (some a3) a0.length a2), (8, .int .i64 (a0.length : Int)), (9, .int .i64 a1)] (by kernel_rfl) ?_
    refine EL.done (by kernel_rfl) ?_
    refine EQ.code ?_
    obtain ⟨b8, f0, H⟩ := lt_out H
    refine EW.cut (x := Cd51.r.r.l.r.l.l.r.r.l.l.r.r.l) (y := Cd51.r.r.l.r.l.l.r.r.l.l.r.r.r) (fun a w => ∃ c1 : Int, Sat 42 [(3, .slice a6 a4.length a7), (5, .int .u64 (a0.getD a1.toNat 0)), (6, .int .i64 c1), (7, .slice (some a3) a0.length a2), (8, .int .i64 (a0.length : Int)), (9, .int .i64 a1)] a ∧ St B w (Ass.own 5 (Kd.int .u8) a6 a7 a4 :: os) (Ro.sl (Kd.int .u64) (some a3) a2 a0 :: rs) ∧ b8 c1 = some b3) (by kernel_rfl) ?_ (fun a w hI => ?_)
    ·refine EW.block (x := Cd51.r.r.l.r.l.l.r.r.l.l.r.r.l.l) (id := 2) (by kernel_rfl) ?_
     refine EW.loop (x := Cd51.r.r.l.r.l.l.r.r.l.l.r.r.l.l.l) (fun n a w => ∃ a8 : Int, Sat 42 [(3, .slice a6 a4.length a7), (5, .int .u64 (a0.getD a1.toNat 0)), (6, .int .i64 a8), (7, .slice (some a3) a0.length a2), (8, .int .i64 (a0.length : Int)), (9, .int .i64 a1)] a ∧ St B w (Ass.own 5 (Kd.int .u8) a6 a7 a4 :: os) (Ro.sl (Kd.int .u64) (some a3) a2 a0 :: rs) ∧ pack_Put.l1 K a0 a1 b8 n a8 = some b3) K (by kernel_rfl) ?_ (fun n a w hI => ?_)
     ·refine EQ.keep [3, 5, 6, 7, 8, 9] [(3, .slice a6 a4.length a7), (5, .int .u64 (a0.getD a1.toNat 0)), (6, .int .i64 0), (7, .slice (some a3) a0.length a2), (8, .int .i64 (a0.length : Int)), (9, .int .i64 a1)] (by kernel_rfl) ?_
      exact fun a ha => ⟨0, ha, (hS.re [0] [] rfl (sub_cons 0 rfl (sub_tail (sub_self)))), H⟩
     ·obtain ⟨a8, ha, hS, H⟩ := hI
      obtain _ | n := n
      ·simp [pack_Put.l1] at H
      rw [pack_Put.l1.eq_2] at H
      refine EW.at ?_ a ha
      clear ha a
      refine EW.seq (x := Cd51.r.r.l.r.l.l.r.r.l.l.r.r.l.l.l.l) (y := Cd51.r.r.l.r.l.l.r.r.l.l.r.r.l.l.l.r) (by kernel_rfl) ?_
      refine EW.seq (x := Cd51.r.r.l.r.l.l.r.r.l.l.r.r.l.l.l.l.l) (y := Cd51.r.r.l.r.l.l.r.r.l.l.r.r.l.l.l.l.r) (by kernel_rfl) ?_
      refine EW.region (id := 6) (ops := Cd51.r.r.l.r.l.l.r.r.l.l.r.r.l.l.l.l.l.ops) (by kernel_rfl) ?_
      refine EL.quick 4 [3, 5, 6, 7, 8, 9, 13, 16] [(3, .slice a6 a4.length a7), (5, .int .u64 (a0.getD a1.toNat 0)), (6, .int .i64 a8), (7, .slice (some a3) a0.length a2), (8, .int .i64 (a0.length : Int)), (9, .int .i64 a1), (13, .int .u64 (a0.getD a1.toNat 0)), (16, .int .i64 (IntKind.i64.wrap (7 * (IntKind.i64.wrap (a8 + 1)))))] (by kernel_rfl) ?_
      obtain ⟨e5, H⟩ := ite_out H
      refine EL.of (EO.Y (YO.shift .shr .u64 .i64 (a0.getD a1.toNat 0) (IntKind.i64.wrap (7 * (IntKind.i64.wrap (a8 + 1)))) (sR .u64 (a0.getD a1.toNat 0) (IntKind.i64.wrap (7 * (IntKind.i64.wrap (a8 + 1))))) 17 (by kernel_rfl) (by kernel_rfl) (by kernel_rfl) e5 (by first | exact .inl ⟨rfl, rfl⟩ | exact .inr ⟨rfl, rfl⟩)) ?_)
      refine EL.quick 1 [3, 5, 6, 7, 8, 9, 18] [(3, .slice a6 a4.length a7), (5, .int .u64 (a0.getD a1.toNat 0)), (6, .int .i64 a8), (7, .slice (some a3) a0.length a2), (8, .int .i64 (a0.length : Int)), (9, .int .i64 a1), (18, .bool (!(decide ((sR .u64 (a0.getD a1.toNat 0) (IntKind.i64.wrap (7 * (IntKind.i64.wrap (a8 + 1))))) = 0))))] (by kernel_rfl) ?_
      refine EL.done (by kernel_rfl) ?_
      refine EQ.code ?_
      refine EW.condQ (b := !(decide ((sR .u64 (a0.getD a1.toNat 0) (IntKind.i64.wrap (7 * (IntKind.i64.wrap (a8 + 1))))) = 0))) (o := (.tmp 18)) (x := Cd51.r.r.l.r.l.l.r.r.l.l.r.r.l.l.l.l.r.l) (y := Cd51.r.r.l.r.l.l.r.r.l.l.r.r.l.l.l.l.r.r) ((sR .u64 (a0.getD a1.toNat 0) (IntKind.i64.wrap (7 * (IntKind.i64.wrap (a8 + 1))))) = 0) (false) (by kernel_rfl) (by kernel_rfl) ⟨fun h => (by rw [decide_eq_true h] <;> rfl), fun h => (by rw [decide_eq_false h] <;> rfl)⟩ (fun d5 => ?_) (fun d5 => ?_)
      ·rw [if_pos d5] at H
       refine EW.exit (id := 2) (by kernel_rfl) ?_
       refine EQ.exitCode ?_
       refine EQ.exitTo ?_
       refine EQ.exitHere ?_
       refine EQ.to ?_
       refine EQ.keep [3, 5, 6, 7, 8, 9] [(3, .slice a6 a4.length a7), (5, .int .u64 (a0.getD a1.toNat 0)), (6, .int .i64 a8), (7, .slice (some a3) a0.length a2), (8, .int .i64 (a0.length : Int)), (9, .int .i64 a1)] (by kernel_rfl) ?_
       exact fun a ha => ⟨a8, ha, (hS.re [0] [] rfl (sub_cons 0 rfl (sub_tail (sub_self)))), H⟩
      ·rw [if_neg d5] at H
       refine EW.skip (by kernel_rfl) ?_
       refine EQ.code ?_
       refine EW.block (x := Cd51.r.r.l.r.l.l.r.r.l.l.r.r.l.l.l.r.l) (id := 3) (by kernel_rfl) ?_
       refine EW.region (id := 7) (ops := Cd51.r.r.l.r.l.l.r.r.l.l.r.r.l.l.l.r.l.ops) (by kernel_rfl) ?_
       refine EL.quick 3 [3, 5, 6, 7, 8, 9] [(3, .slice a6 a4.length a7), (5, .int .u64 (a0.getD a1.toNat 0)), (6, .int .i64 (IntKind.i64.wrap (a8 + 1))), (7, .slice (some a3) a0.length a2), (8, .int .i64 (a0.length : Int)), (9, .int .i64 a1)] (by kernel_rfl) ?_
       refine EL.done (by kernel_rfl) ?_
       refine EQ.pop ?_
       refine EQ.to ?_
       refine EQ.keep [3, 5, 6, 7, 8, 9] [(3, .slice a6 a4.length a7), (5, .int .u64 (a0.getD a1.toNat 0)), (6, .int .i64 (IntKind.i64.wrap (a8 + 1))), (7, .slice (some a3) a0.length a2), (8, .int .i64 (a0.length : Int)), (9, .int .i64 a1)] (by kernel_rfl) ?_
       exact fun a ha => ⟨n, Nat.lt_succ_self n, IntKind.i64.wrap (a8 + 1), ha, (hS.re [0] [] rfl (sub_cons 0 rfl (sub_tail (sub_self)))), H⟩
    ·obtain ⟨c1, ha, hS, H⟩ := hI
     rw [f0] at H
     (try dsimp only at H)
     refine EW.at ?_ a ha
     clear ha a
     obtain ⟨b9, f1, H⟩ := lt_out H
     refine EW.cut (x := Cd51.r.r.l.r.l.l.r.r.l.l.r.r.r.l) (y := Cd51.r.r.l.r.l.l.r.r.l.l.r.r.r.r) (fun a w => ∃ b5 : List Int, ∃ c8 : Option Addr, ∃ d0 : Nat, Sat 42 [(3, .slice c8 b5.length d0), (5, .int .u64 (a0.getD a1.toNat 0)), (7, .slice (some a3) a0.length a2), (8, .int .i64 (a0.length : Int)), (9, .int .i64 a1)] a ∧ St B w (Ass.own 5 (Kd.int .u8) c8 d0 b5 :: os) (Ro.sl (Kd.int .u64) (some a3) a2 a0 :: rs) ∧ b9 b5 = some b3) (by kernel_rfl) ?_ (fun a w hI => ?_)
     ·refine EW.block (x := Cd51.r.r.l.r.l.l.r.r.l.l.r.r.r.l.l) (id := 4) (by kernel_rfl) ?_
      refine EW.loop (x := Cd51.r.r.l.r.l.l.r.r.l.l.r.r.r.l.l.l) (fun n a w => ∃ b0 : List Int, ∃ a5 : Int, ∃ b1 : Option Addr, ∃ b2 : Nat, Sat 42 [(3, .slice b1 b0.length b2), (5, .int .u64 (a0.getD a1.toNat 0)), (6, .int .i64 a5), (7, .slice (some a3) a0.length a2), (8, .int .i64 (a0.length : Int)), (9, .int .i64 a1)] a ∧ St B w (Ass.own 5 (Kd.int .u8) b1 b2 b0 :: os) (Ro.sl (Kd.int .u64) (some a3) a2 a0 :: rs) ∧ pack_Put.l2 K a0 a1 b9 n b0 a5 = some b3) K (by kernel_rfl) ?_ (fun n a w hI => ?_)
      ·refine EQ.keep [3, 5, 6, 7, 8, 9] [(3, .slice a6 a4.length a7), (5, .int .u64 (a0.getD a1.toNat 0)), (6, .int .i64 c1), (7, .slice (some a3) a0.length a2), (8, .int .i64 (a0.length : Int)), (9, .int .i64 a1)] (by kernel_rfl) ?_
       exact fun a ha => ⟨a4, c1, a6, a7, ha, (hS.re [0] [] rfl (sub_cons 0 rfl (sub_tail (sub_self)))), H⟩
      ·obtain ⟨b0, a5, b1, b2, ha, hS, H⟩ := hI
       obtain _ | n := n
       ·simp [pack_Put.l2] at H
       rw [pack_Put.l2.eq_2] at H
       refine EW.at ?_ a ha
       clear ha a
       refine EW.seq (x := Cd51.r.r.l.r.l.l.r.r.l.l.r.r.r.l.l.l.l) (y := Cd51.r.r.l.r.l.l.r.r.l.l.r.r.r.l.l.l.r) (by kernel_rfl) ?_
       refine EW.seq (x := Cd51.r.r.l.r.l.l.r.r.l.l.r.r.r.l.l.l.l.l) (y := Cd51.r.r.l.r.l.l.r.r.l.l.r.r.r.l.l.l.l.r) (by kernel_rfl) ?_
       refine EW.region (id := 8) (ops := Cd51.r.r.l.r.l.l.r.r.l.l.r.r.r.l.l.l.l.l.ops) (by kernel_rfl) ?_
       refine EL.quick 2 [3, 5, 6, 7, 8, 9, 22] [(3, .slice b1 b0.length b2), (5, .int .u64 (a0.getD a1.toNat 0)), (6, .int .i64 a5), (7, .slice (some a3) a0.length a2), (8, .int .i64 (a0.length : Int)), (9, .int .i64 a1), (22, .bool (decide (a5 > 0)))] (by kernel_rfl) ?_
       refine EL.done (by kernel_rfl) ?_
       refine EQ.code ?_
       refine EW.condP (o := (.tmp 22)) (x := Cd51.r.r.l.r.l.l.r.r.l.l.r.r.r.l.l.l.l.r.l) (y := Cd51.r.r.l.r.l.l.r.r.l.l.r.r.r.l.l.l.l.r.r) (a5 > 0) (by kernel_rfl) (by kernel_rfl) (fun d6 => ?_) (fun d6 => ?_)
       ·rw [if_pos d6] at H
        refine EW.skip (by kernel_rfl) ?_
        refine EQ.code ?_
        refine EW.seq (x := Cd51.r.r.l.r.l.l.r.r.l.l.r.r.r.l.l.l.r.l) (y := Cd51.r.r.l.r.l.l.r.r.l.l.r.r.r.l.l.l.r.r) (by kernel_rfl) ?_
        refine EW.block (x := Cd51.r.r.l.r.l.l.r.r.l.l.r.r.r.l.l.l.r.l.l) (id := 5) (by kernel_rfl) ?_
        refine EW.region (id := 10) (ops := Cd51.r.r.l.r.l.l.r.r.l.l.r.r.r.l.l.l.r.l.l.ops) (by kernel_rfl) ?_
        refine EL.quick 4 [5, 6, 7, 8, 9, 25, 26, 28] [(5, .int .u64 (a0.getD a1.toNat 0)), (6, .int .i64 a5), (7, .slice (some a3) a0.length a2), (8, .int .i64 (a0.length : Int)), (9, .int .i64 a1), (25, .slice b1 b0.length b2), (26, .int .u64 (a0.getD a1.toNat 0)), (28, .int .i64 (IntKind.i64.wrap (7 * a5)))] (by kernel_rfl) ?_
        obtain ⟨e6, H⟩ := ite_out H
        refine EL.of (EO.Y (YO.shift .shr .u64 .i64 (a0.getD a1.toNat 0) (IntKind.i64.wrap (7 * a5)) (sR .u64 (a0.getD a1.toNat 0) (IntKind.i64.wrap (7 * a5))) 29 (by kernel_rfl) (by kernel_rfl) (by kernel_rfl) e6 (by first | exact .inl ⟨rfl, rfl⟩ | exact .inr ⟨rfl, rfl⟩)) ?_)
        refine EL.quick 2 [5, 6, 7, 8, 9, 25, 31] [(5, .int .u64 (a0.getD a1.toNat 0)), (6, .int .i64 a5), (7, .slice (some a3) a0.length a2), (8, .int .i64 (a0.length : Int)), (9, .int .i64 a1), (25, .slice b1 b0.length b2), (31, .int .u8 (bO .u8 (IntKind.u8.wrap (sR .u64 (a0.getD a1.toNat 0) (IntKind.i64.wrap (7 * a5)))) 128))] (by kernel_rfl) ?_
        obtain ⟨c7, e3, H⟩ := lt_out H
        refine EL.of (EO.lit hS (Kd.int .u8) 5 75 1 #[(0, .int .u8 (bO .u8 (IntKind.u8.wrap (sR .u64 (a0.getD a1.toNat 0) (IntKind.i64.wrap (7 * a5)))) 128))] [.int .u8 (bO .u8 (IntKind.u8.wrap (sR .u64 (a0.getD a1.toNat 0) (IntKind.i64.wrap (7 * a5)))) 128)] c7 32 (by kernel_rfl) (by kernel_rfl) (by kernel_rfl) (fun _ => (by kernel_rfl)) (by rw [e3]; rfl) (by kernel_rfl) (fun w G hr => (by rw [e3]; exact ⟨[.int .u8 (bO .u8 (IntKind.u8.wrap (sR .u64 (a0.getD a1.toNat 0) (IntKind.i64.wrap (7 * a5)))) 128)], [], rfl, rfl, rfl⟩)) ?_)
        intro e2 w hS
        obtain ⟨e7, H⟩ := ite_in H
        obtain ⟨b6, f2, H⟩ := lt_out H
        refine EL.of (EO.append hS 75 75 5 1 1 (Kd.int .u8) b1 b2 b0 rfl (some ⟨e2, 0, none⟩) 1 c7 (Rd.own 0 5 rfl) b6 f2 (fun c3 c5 => Ass.own 5 (Kd.int .u8) (some ⟨e2, 0, none⟩) 1 c7 :: Ass.own 5 (Kd.int .u8) c3 c5 b6 :: os) 33 (by kernel_rfl) (by kernel_rfl) (by kernel_rfl) (by kernel_rfl) e7 (fun _ _ => rfl) ?_)
        intro c3 c5 w hS
        refine EL.quick 1 [3, 5, 6, 7, 8, 9] [(3, .slice c3 b6.length c5), (5, .int .u64 (a0.getD a1.toNat 0)), (6, .int .i64 a5), (7, .slice (some a3) a0.length a2), (8, .int .i64 (a0.length : Int)), (9, .int .i64 a1)] (by kernel_rfl) ?_
        refine EL.done (by kernel_rfl) ?_
        refine EQ.pop ?_
        refine EQ.code ?_
        refine EW.region (id := 9) (ops := Cd51.r.r.l.r.l.l.r.r.l.l.r.r.r.l.l.l.r.r.ops) (by kernel_rfl) ?_
        refine EL.quick 3 [3, 5, 6, 7, 8, 9] [(3, .slice c3 b6.length c5), (5, .int .u64 (a0.getD a1.toNat 0)), (6, .int .i64 (IntKind.i64.wrap (a5 - 1))), (7, .slice (some a3) a0.length a2), (8, .int .i64 (a0.length : Int)), (9, .int .i64 a1)] (by kernel_rfl) ?_
        refine EL.done (by kernel_rfl) ?_
        refine EQ.to ?_
        refine EQ.keep [3, 5, 6, 7, 8, 9] [(3, .slice c3 b6.length c5), (5, .int .u64 (a0.getD a1.toNat 0)), (6, .int .i64 (IntKind.i64.wrap (a5 - 1))), (7, .slice (some a3) a0.length a2), (8, .int .i64 (a0.length : Int)), (9, .int .i64 a1)] (by kernel_rfl) ?_
        exact fun a ha => ⟨n, Nat.lt_succ_self n, b6, IntKind.i64.wrap (a5 - 1), c3, c5, ha, (hS.re [1] [1] rfl (sub_cons 0 rfl (sub_tail (sub_self)))), H⟩
       ·rw [if_neg d6] at H
        refine EW.exit (id := 4) (by kernel_rfl) ?_
        refine EQ.exitCode ?_
        refine EQ.exitTo ?_
        refine EQ.exitHere ?_
        refine EQ.to ?_
        refine EQ.keep [3, 5, 7, 8, 9] [(3, .slice b1 b0.length b2), (5, .int .u64 (a0.getD a1.toNat 0)), (7, .slice (some a3) a0.length a2), (8, .int .i64 (a0.length : Int)), (9, .int .i64 a1)] (by kernel_rfl) ?_
        exact fun a ha => ⟨b0, b1, b2, ha, (hS.re [0] [] rfl (sub_cons 0 rfl (sub_tail (sub_self)))), H⟩
     ·obtain ⟨b5, c8, d0, ha, hS, H⟩ := hI
      rw [f1] at H
      (try dsimp only at H)
      refine EW.at ?_ a ha
      clear ha a
      refine EW.region (id := 11) (ops := Cd51.r.r.l.r.l.l.r.r.l.l.r.r.r.r.ops) (by kernel_rfl) ?_
      refine EL.quick 4 [7, 8, 9, 34, 37] [(7, .slice (some a3) a0.length a2), (8, .int .i64 (a0.length : Int)), (9, .int .i64 a1), (34, .slice c8 b5.length d0), (37, .int .u8 (bN .u8 (IntKind.u8.wrap (a0.getD a1.toNat 0)) 128))] (by kernel_rfl) ?_
      obtain ⟨b7, e4, H⟩ := lt_out H
      refine EL.of (EO.lit hS (Kd.int .u8) 5 75 1 #[(0, .int .u8 (bN .u8 (IntKind.u8.wrap (a0.getD a1.toNat 0)) 128))] [.int .u8 (bN .u8 (IntKind.u8.wrap (a0.getD a1.toNat 0)) 128)] b7 38 (by kernel_rfl) (by kernel_rfl) (by kernel_rfl) (fun _ => (by kernel_rfl)) (by rw [e4]; rfl) (by kernel_rfl) (fun w G hr => (by rw [e4]; exact ⟨[.int .u8 (bN .u8 (IntKind.u8.wrap (a0.getD a1.toNat 0)) 128)], [], rfl, rfl, rfl⟩)) ?_)
      intro d3 w hS
      obtain ⟨e8, H⟩ := ite_in H
      obtain ⟨c0, f3, H⟩ := lt_out H
      refine EL.of (EO.append hS 75 75 5 1 1 (Kd.int .u8) c8 d0 b5 rfl (some ⟨d3, 0, none⟩) 1 b7 (Rd.own 0 5 rfl) c0 f3 (fun c9 d1 => Ass.own 5 (Kd.int .u8) (some ⟨d3, 0, none⟩) 1 b7 :: Ass.own 5 (Kd.int .u8) c9 d1 c0 :: os) 39 (by kernel_rfl) (by kernel_rfl) (by kernel_rfl) (by kernel_rfl) e8 (fun _ _ => rfl) ?_)
      intro c9 d1 w hS
      refine EL.quick 1 [3, 7, 8, 9] [(3, .slice c9 c0.length d1), (7, .slice (some a3) a0.length a2), (8, .int .i64 (a0.length : Int)), (9, .int .i64 a1)] (by kernel_rfl) ?_
      refine EL.done (by kernel_rfl) ?_
      refine EQ.pop ?_
      refine EQ.to ?_
      refine EQ.keep [3, 7, 8, 9] [(3, .slice c9 c0.length d1), (7, .slice (some a3) a0.length a2), (8, .int .i64 (a0.length : Int)), (9, .int .i64 a1)] (by kernel_rfl) ?_
      exact fun a ha => ⟨b7, c0, (some ⟨d3, 0, none⟩), 1, c9, d1, ha, (hS.re [1, 1] [] rfl (sub_cons 0 rfl (sub_tail (sub_self)))), H⟩
   ·obtain ⟨d2, b4, d9, e1, c2, c4, ha, hS, H⟩ := hI
    rw [e9] at H
    (try dsimp only at H)
    refine EW.at ?_ a ha
    clear ha a
    refine EW.region (id := 12) (ops := Cd51.r.r.l.r.l.l.r.r.r.ops) (by kernel_rfl) ?_
    refine EL.quick 2 [3, 7, 8, 9] [(3, .slice c2 b4.length c4), (7, .slice a9 a0.length a2), (8, .int .i64 (a0.length : Int)), (9, .int .i64 (IntKind.i64.wrap (a1 + 1)))] (by kernel_rfl) ?_
    refine EL.done (by kernel_rfl) ?_
    refine EQ.to ?_
    refine EQ.keep [3, 7, 8, 9] [(3, .slice c2 b4.length c4), (7, .slice a9 a0.length a2), (8, .int .i64 (a0.length : Int)), (9, .int .i64 (IntKind.i64.wrap (a1 + 1)))] (by kernel_rfl) ?_
    exact fun a ha => ⟨n, Nat.lt_succ_self n, b4, IntKind.i64.wrap (a1 + 1), c2, c4, ha, (hS.re [1] [1] rfl (sub_cons 0 rfl (sub_tail (sub_self)))), H⟩
  ·rw [if_neg c6] at H
   refine EW.exit (id := 0) (by kernel_rfl) ?_
   refine EQ.exitCode ?_
   refine EQ.exitTo ?_
   refine EQ.exitHere ?_
   refine EQ.code ?_
   refine EW.seq (x := Cd51.r.r.r.l) (y := Cd51.r.r.r.r) (by kernel_rfl) ?_
   refine EW.region (id := 13) (ops := Cd51.r.r.r.l.ops) (by kernel_rfl) ?_
   refine EL.quick 2 [2] [(2, .slice a6 a4.length a7)] (by kernel_rfl) ?_
   refine EL.done (by kernel_rfl) ?_
   refine EQ.code ?_
   refine EW.ret (by kernel_rfl) ?_
   obtain rfl := Option.some.inj H
   exact EQ.leave (.slice a6 a4.length a7) (by kernel_rfl) ⟨_, rfl, a6, a7, rfl, (hS.re [0] [] rfl (sub_self))⟩

/-! ### confidant/audit.Put: function 33 -/
def audit_Put.l0 (K : Nat) (a0 : List S69) : Nat → (List Int) → Int → Option (List Int)
 | 0, _, _ => none
 | n + 1, a4, a1 => if a1 < (a0.length : Int) then (if 0 ≤ a1 then (lt ([IntKind.u64.wrap ((a0.getD a1.toNat zS69).f0), IntKind.u64.wrap ((a0.getD a1.toNat zS69).f1), IntKind.u64.wrap ((a0.getD a1.toNat zS69).f2), IntKind.u64.wrap (IntKind.u32.wrap ((a0.getD a1.toNat zS69).f3)), IntKind.u64.wrap ((a0.getD a1.toNat zS69).f4), IntKind.u64.wrap ((a0.getD a1.toNat zS69).f5)] : List Int) fun b6 => (b1 (pack_Put.f K b6) fun (b9 : List Int) => (if (a4.length + b9.length) * 1 ≤ 140737488355328 then (lt (a4 ++ b9) fun b0 => (audit_Put.l0 K a0 n b0 (IntKind.i64.wrap (a1 + 1)))) else none))) else none) else (some a4)
def audit_Put.f (K : Nat) (a0 : List S69) : Option (List Int) := b1 (audit_Right.f K a0) fun (b8 : Bool) => (if b8 = true then (lt ([IntKind.u64.wrap (a0.length : Int)] : List Int) fun a9 => (b1 (pack_Put.f K a9) fun (b7 : List Int) => (audit_Put.l0 K a0 K b7 0))) else (some ([] : List Int)))
set_option maxRecDepth 100000 in
theorem audit_Put.calls {K : Nat} {a0 : List S69} {a3 : Option Addr} {a2 : Nat} {c2 : List Int} {B w : World} {os : List Ass} {rs : List Ro} (H : audit_Put.f K a0 = some c2) (hS : St B w (os) (Ro.sl kS69 a3 a2 a0 :: rs)) :
  Calls Try.prog 33 [.slice a3 a0.length a2].toArray w (fun en w' => ∃ v, en = .returned v ∧ ∃ c6 : Option Addr, ∃ c8 : Nat, v = .slice c6 c2.length c8 ∧ St B w' (Ass.own 5 (Kd.int .u8) c6 c8 c2 :: os) (Ro.sl kS69 a3 a2 a0 :: rs)) := by
 unfold audit_Put.f at H
 refine calls_of_EW (args := [.slice a3 a0.length a2]) (c := Cd33) 45 Try.func33 (by kernel_rfl) (by kernel_rfl) (by kernel_rfl) ?_
 refine EW.seq (x := Cd33.l) (y := Cd33.r) (by kernel_rfl) ?_
 refine EW.region (id := 0) (ops := Cd33.l.ops) (by kernel_rfl) ?_
 refine EL.quick 1 [0] [(0, .slice a3 a0.length a2)] (by kernel_rfl) ?_
 refine EL.done (by kernel_rfl) ?_
 refine EQ.code ?_
 refine EW.seq (x := Cd33.r.l) (y := Cd33.r.r) (by kernel_rfl) ?_
 refine EW.seq (x := Cd33.r.l.l) (y := Cd33.r.l.r) (by kernel_rfl) ?_
 refine EW.region (id := 1) (ops := Cd33.r.l.l.ops) (by kernel_rfl) ?_
 refine EL.quick 1 [0, 6] [(0, .slice a3 a0.length a2), (6, .slice a3 a0.length a2)] (by kernel_rfl) ?_
 have hS : St B _ (os) (Ro.sl kS69 a3 a2 a0 :: Ro.sl kS69 a3 a2 a0 :: rs) := hS.re [] [] rfl (sub_cons 0 rfl sub_self)
 obtain ⟨b8, d3, H⟩ := b1_out H
 refine EL.of (EO.callD 31 [.slice a3 a0.length a2] _ 7 (by kernel_rfl) (by kernel_rfl) (by kernel_rfl) (audit_Right.calls d3 hS) ?_)
 rintro v w ⟨rfl, hS⟩
 refine EL.quick 1 [0, 8] [(0, .slice a3 a0.length a2), (8, .bool (!(b8)))] (by kernel_rfl) ?_
 refine EL.done (by kernel_rfl) ?_
 refine EQ.code ?_
 refine EW.condQ (b := !(b8)) (o := (.tmp 8)) (x := Cd33.r.l.r.l) (y := Cd33.r.l.r.r) (b8 = true) (false) (by kernel_rfl) (by kernel_rfl) ⟨fun h => (by rw [h] <;> rfl), fun h => (by rw [Bool.eq_false_iff.2 h] <;> rfl)⟩ (fun c4 => ?_) (fun c4 => ?_)
 ·rw [if_pos c4] at H
  refine EW.skip (by kernel_rfl) ?_
  refine EQ.code ?_
  refine EW.seq (x := Cd33.r.r.l) (y := Cd33.r.r.r) (by kernel_rfl) ?_
  refine EW.region (id := 3) (ops := Cd33.r.r.l.ops) (by kernel_rfl) ?_
  refine EL.quick 3 [0, 11] [(0, .slice a3 a0.length a2), (11, .int .u64 (IntKind.u64.wrap (a0.length : Int)))] (by kernel_rfl) ?_
  obtain ⟨a9, d0, H⟩ := lt_out H
  refine EL.of (EO.lit hS (Kd.int .u64) 116 134 1 #[(0, .int .u64 (IntKind.u64.wrap (a0.length : Int)))] [.int .u64 (IntKind.u64.wrap (a0.length : Int))] a9 12 (by kernel_rfl) (by kernel_rfl) (by kernel_rfl) (fun _ => (by kernel_rfl)) (by rw [d0]; rfl) (by kernel_rfl) (fun w G hr => (by rw [d0]; exact ⟨[.int .u64 (IntKind.u64.wrap (a0.length : Int))], [], rfl, rfl, rfl⟩)) ?_)
  intro b2 w hS
  have hS := St.fr hS 0 rfl
  have hS : St B _ (os) (Ro.sl (Kd.int .u64) (some ⟨b2, 0, none⟩) 1 a9 :: Ro.sl (Kd.int .u64) (some ⟨b2, 0, none⟩) 1 a9 :: Ro.sl kS69 a3 a2 a0 :: Ro.sl kS69 a3 a2 a0 :: rs) := hS.re [] [] rfl (sub_cons 0 rfl sub_self)
  obtain ⟨b7, d4, H⟩ := b1_out H
  refine EL.of (EO.callD 51 [.slice (some ⟨b2, 0, none⟩) a9.length 1] _ 13 (by kernel_rfl) (by kernel_rfl) (by kernel_rfl) (pack_Put.calls d4 hS) ?_)
  rintro v w ⟨c0, c1, rfl, hS⟩
  refine EL.quick 1 [0, 3] [(0, .slice a3 a0.length a2), (3, .slice c0 b7.length c1)] (by kernel_rfl) ?_
  refine EL.done (by kernel_rfl) ?_
  refine EQ.code ?_
  refine EW.seq (x := Cd33.r.r.r.l) (y := Cd33.r.r.r.r) (by kernel_rfl) ?_
  refine EW.seq (x := Cd33.r.r.r.l.l) (y := Cd33.r.r.r.l.r) (by kernel_rfl) ?_
  refine EW.region (id := 4) (ops := Cd33.r.r.r.l.l.ops) (by kernel_rfl) ?_
  refine EL.quick 3 [3, 14, 15, 16] [(3, .slice c0 b7.length c1), (14, .slice a3 a0.length a2), (15, .int .i64 (a0.length : Int)), (16, .int .i64 0)] (by kernel_rfl) ?_
  refine EL.done (by kernel_rfl) ?_
  refine EQ.code ?_
  refine EW.block (x := Cd33.r.r.r.l.r.l) (id := 0) (by kernel_rfl) ?_
  refine EW.loop (x := Cd33.r.r.r.l.r.l.l) (fun n a w => ∃ a4 : List Int, ∃ a1 : Int, ∃ a5 : Option Addr, ∃ a6 : Nat, Sat 45 [(3, .slice a5 a4.length a6), (14, .slice a3 a0.length a2), (15, .int .i64 (a0.length : Int)), (16, .int .i64 a1)] a ∧ St B w (Ass.own 5 (Kd.int .u8) a5 a6 a4 :: os) (Ro.sl (Kd.int .u64) (some ⟨b2, 0, none⟩) 1 a9 :: Ro.sl (Kd.int .u64) (some ⟨b2, 0, none⟩) 1 a9 :: Ro.sl kS69 a3 a2 a0 :: Ro.sl kS69 a3 a2 a0 :: rs) ∧ audit_Put.l0 K a0 n a4 a1 = some c2) K (by kernel_rfl) ?_ (fun n a w hI => ?_)
  ·refine EQ.keep [3, 14, 15, 16] [(3, .slice c0 b7.length c1), (14, .slice a3 a0.length a2), (15, .int .i64 (a0.length : Int)), (16, .int .i64 0)] (by kernel_rfl) ?_
   exact fun a ha => ⟨b7, 0, c0, c1, ha, (hS.re [0] [] rfl (sub_cons 0 rfl (sub_cons 0 rfl (sub_cons 2 rfl (sub_cons 2 rfl (sub_tail (sub_tail (sub_tail (sub_tail (sub_self)))))))))), H⟩
  ·obtain ⟨a4, a1, a5, a6, ha, hS, H⟩ := hI
   obtain _ | n := n
   ·simp [audit_Put.l0] at H
   rw [audit_Put.l0.eq_2] at H
   refine EW.at ?_ a ha
   clear ha a
   refine EW.seq (x := Cd33.r.r.r.l.r.l.l.l) (y := Cd33.r.r.r.l.r.l.l.r) (by kernel_rfl) ?_
   refine EW.region (id := 5) (ops := Cd33.r.r.r.l.r.l.l.l.ops) (by kernel_rfl) ?_
   refine EL.quick 1 [3, 14, 15, 16, 17] [(3, .slice a5 a4.length a6), (14, .slice a3 a0.length a2), (15, .int .i64 (a0.length : Int)), (16, .int .i64 a1), (17, .bool (decide (a1 < (a0.length : Int))))] (by kernel_rfl) ?_
   refine EL.done (by kernel_rfl) ?_
   refine EQ.code ?_
   refine EW.seq (x := Cd33.r.r.r.l.r.l.l.r.l) (y := Cd33.r.r.r.l.r.l.l.r.r) (by kernel_rfl) ?_
   refine EW.condP (o := (.tmp 17)) (x := Cd33.r.r.r.l.r.l.l.r.l.l) (y := Cd33.r.r.r.l.r.l.l.r.l.r) (a1 < (a0.length : Int)) (by kernel_rfl) (by kernel_rfl) (fun b5 => ?_) (fun b5 => ?_)
   ·rw [if_pos b5] at H
    refine EW.skip (by kernel_rfl) ?_
    refine EQ.code ?_
    refine EW.seq (x := Cd33.r.r.r.l.r.l.l.r.r.l) (y := Cd33.r.r.r.l.r.l.l.r.r.r) (by kernel_rfl) ?_
    refine EW.block (x := Cd33.r.r.r.l.r.l.l.r.r.l.l) (id := 1) (by kernel_rfl) ?_
    refine EW.seq (x := Cd33.r.r.r.l.r.l.l.r.r.l.l.l) (y := Cd33.r.r.r.l.r.l.l.r.r.l.l.r) (by kernel_rfl) ?_
    refine EW.region (id := 6) (ops := Cd33.r.r.r.l.r.l.l.r.r.l.l.l.ops) (by kernel_rfl) ?_
    obtain ⟨c5, H⟩ := ite_in H
    obtain ⟨a7, rfl⟩ := St.rd_some hS (Rd.ro 2 rfl) c5 b5
    refine EL.of (EO.Y (YO.idx 64 6 a7 a0.length a2 .i64 a1 18 (by kernel_rfl) (by kernel_rfl) (by kernel_rfl) (by kernel_rfl) c5 b5) ?_)
    refine EL.of (EO.Y (YO.loadEl hS kS69 a7 a2 a0 (Rd.ro 2 rfl) zS69 encS69 encS69_of a1 c5 b5 69 6 0 6 rfl (.agg #[.int .i64 ((a0.getD a1.toNat zS69).f0), .int .i64 ((a0.getD a1.toNat zS69).f1), .int .i64 ((a0.getD a1.toNat zS69).f2), .int .i32 ((a0.getD a1.toNat zS69).f3), .int .i64 ((a0.getD a1.toNat zS69).f4), .int .i32 ((a0.getD a1.toNat zS69).f5)]) 19 (by kernel_rfl) (by kernel_rfl) (by kernel_rfl) (by kernel_rfl)) ?_)
    refine EL.of (EO.alloc hS 69 (.agg #[.int .i64 0, .int .i64 0, .int .i64 0, .int .i32 0, .int .i64 0, .int .i32 0]) [.int .i64 0, .int .i64 0, .int .i64 0, .int .i32 0, .int .i64 0, .int .i32 0] 5 (by kernel_rfl) (by kernel_rfl) (by kernel_rfl) (by kernel_rfl) (by first | rfl | kernel_rfl) ?_)
    intro a8 w hS
    refine EL.of (EO.storeBox (os' := Ass.box 69 a8 [.int .i64 ((a0.getD a1.toNat zS69).f0), .int .i64 ((a0.getD a1.toNat zS69).f1), .int .i64 ((a0.getD a1.toNat zS69).f2), .int .i32 ((a0.getD a1.toNat zS69).f3), .int .i64 ((a0.getD a1.toNat zS69).f4), .int .i32 ((a0.getD a1.toNat zS69).f5)] :: Ass.own 5 (Kd.int .u8) a5 a6 a4 :: os) hS 0 rfl 69 0 (.agg #[.int .i64 ((a0.getD a1.toNat zS69).f0), .int .i64 ((a0.getD a1.toNat zS69).f1), .int .i64 ((a0.getD a1.toNat zS69).f2), .int .i32 ((a0.getD a1.toNat zS69).f3), .int .i64 ((a0.getD a1.toNat zS69).f4), .int .i32 ((a0.getD a1.toNat zS69).f5)]) [.int .i64 ((a0.getD a1.toNat zS69).f0), .int .i64 ((a0.getD a1.toNat zS69).f1), .int .i64 ((a0.getD a1.toNat zS69).f2), .int .i32 ((a0.getD a1.toNat zS69).f3), .int .i64 ((a0.getD a1.toNat zS69).f4), .int .i32 ((a0.getD a1.toNat zS69).f5)] (by kernel_rfl) (by kernel_rfl) (by kernel_rfl) (by kernel_rfl) (by kernel_rfl) (by kernel_rfl) rfl rfl ?_)
    intro w hS
    refine EL.done (by kernel_rfl) ?_
    refine EQ.code ?_
    refine EW.region (id := 7) (ops := Cd33.r.r.r.l.r.l.l.r.r.l.l.r.ops) (by kernel_rfl) ?_
    refine EL.quick 2 [5, 14, 15, 16, 20, 21] [(5, .pointer (some ⟨a8, 0, none⟩)), (14, .slice (some a7) a0.length a2), (15, .int .i64 (a0.length : Int)), (16, .int .i64 a1), (20, .slice a5 a4.length a6), (21, .pointer (some ⟨a8, 0, none⟩))] (by kernel_rfl) ?_
    refine EL.of (EO.Y (YO.loadBox hS 0 rfl 3 0 1 (.int .i64 ((a0.getD a1.toNat zS69).f0)) 22 (by kernel_rfl) (by kernel_rfl) (by kernel_rfl) (by kernel_rfl)) ?_)
    refine EL.quick 2 [5, 14, 15, 16, 20, 23, 24] [(5, .pointer (some ⟨a8, 0, none⟩)), (14, .slice (some a7) a0.length a2), (15, .int .i64 (a0.length : Int)), (16, .int .i64 a1), (20, .slice a5 a4.length a6), (23, .int .u64 (IntKind.u64.wrap ((a0.getD a1.toNat zS69).f0))), (24, .pointer (some ⟨a8, 1, none⟩))] (by kernel_rfl) ?_
    refine EL.of (EO.Y (YO.loadBox hS 0 rfl 3 1 1 (.int .i64 ((a0.getD a1.toNat zS69).f1)) 25 (by kernel_rfl) (by kernel_rfl) (by kernel_rfl) (by kernel_rfl)) ?_)
    refine EL.quick 2 [5, 14, 15, 16, 20, 23, 26, 27] [(5, .pointer (some ⟨a8, 0, none⟩)), (14, .slice (some a7) a0.length a2), (15, .int .i64 (a0.length : Int)), (16, .int .i64 a1), (20, .slice a5 a4.length a6), (23, .int .u64 (IntKind.u64.wrap ((a0.getD a1.toNat zS69).f0))), (26, .int .u64 (IntKind.u64.wrap ((a0.getD a1.toNat zS69).f1))), (27, .pointer (some ⟨a8, 2, none⟩))] (by kernel_rfl) ?_
    refine EL.of (EO.Y (YO.loadBox hS 0 rfl 3 2 1 (.int .i64 ((a0.getD a1.toNat zS69).f2)) 28 (by kernel_rfl) (by kernel_rfl) (by kernel_rfl) (by kernel_rfl)) ?_)
    refine EL.quick 2 [5, 14, 15, 16, 20, 23, 26, 29, 30] [(5, .pointer (some ⟨a8, 0, none⟩)), (14, .slice (some a7) a0.length a2), (15, .int .i64 (a0.length : Int)), (16, .int .i64 a1), (20, .slice a5 a4.length a6), (23, .int .u64 (IntKind.u64.wrap ((a0.getD a1.toNat zS69).f0))), (26, .int .u64 (IntKind.u64.wrap ((a0.getD a1.toNat zS69).f1))), (29, .int .u64 (IntKind.u64.wrap ((a0.getD a1.toNat zS69).f2))), (30, .pointer (some ⟨a8, 3, none⟩))] (by kernel_rfl) ?_
    refine EL.of (EO.Y (YO.loadBox hS 0 rfl 21 3 1 (.int .i32 ((a0.getD a1.toNat zS69).f3)) 31 (by kernel_rfl) (by kernel_rfl) (by kernel_rfl) (by kernel_rfl)) ?_)
    refine EL.quick 3 [5, 14, 15, 16, 20, 23, 26, 29, 33, 34] [(5, .pointer (some ⟨a8, 0, none⟩)), (14, .slice (some a7) a0.length a2), (15, .int .i64 (a0.length : Int)), (16, .int .i64 a1), (20, .slice a5 a4.length a6), (23, .int .u64 (IntKind.u64.wrap ((a0.getD a1.toNat zS69).f0))), (26, .int .u64 (IntKind.u64.wrap ((a0.getD a1.toNat zS69).f1))), (29, .int .u64 (IntKind.u64.wrap ((a0.getD a1.toNat zS69).f2))), (33, .int .u64 (IntKind.u64.wrap (IntKind.u32.wrap ((a0.getD a1.toNat zS69).f3)))), (34, .pointer (some ⟨a8, 4, none⟩))] (by kernel_rfl) ?_
    refine EL.of (EO.Y (YO.loadBox hS 0 rfl 3 4 1 (.int .i64 ((a0.getD a1.toNat zS69).f4)) 35 (by kernel_rfl) (by kernel_rfl) (by kernel_rfl) (by kernel_rfl)) ?_)
    refine EL.quick 2 [14, 15, 16, 20, 23, 26, 29, 33, 36, 37] [(14, .slice (some a7) a0.length a2), (15, .int .i64 (a0.length : Int)), (16, .int .i64 a1), (20, .slice a5 a4.length a6), (23, .int .u64 (IntKind.u64.wrap ((a0.getD a1.toNat zS69).f0))), (26, .int .u64 (IntKind.u64.wrap ((a0.getD a1.toNat zS69).f1))), (29, .int .u64 (IntKind.u64.wrap ((a0.getD a1.toNat zS69).f2))), (33, .int .u64 (IntKind.u64.wrap (IntKind.u32.wrap ((a0.getD a1.toNat zS69).f3)))), (36, .int .u64 (IntKind.u64.wrap ((a0.getD a1.toNat zS69).f4))), (37, .pointer (some ⟨a8, 5, none⟩))] (by kernel_rfl) ?_
    refine EL.of (EO.Y (YO.loadBox hS 0 rfl 21 5 1 (.int .i32 ((a0.getD a1.toNat zS69).f5)) 38 (by kernel_rfl) (by kernel_rfl) (by kernel_rfl) (by kernel_rfl)) ?_)
    refine EL.quick 1 [14, 15, 16, 20, 23, 26, 29, 33, 36, 39] [(14, .slice (some a7) a0.length a2), (15, .int .i64 (a0.length : Int)), (16, .int .i64 a1), (20, .slice a5 a4.length a6), (23, .int .u64 (IntKind.u64.wrap ((a0.getD a1.toNat zS69).f0))), (26, .int .u64 (IntKind.u64.wrap ((a0.getD a1.toNat zS69).f1))), (29, .int .u64 (IntKind.u64.wrap ((a0.getD a1.toNat zS69).f2))), (33, .int .u64 (IntKind.u64.wrap (IntKind.u32.wrap ((a0.getD a1.toNat zS69).f3)))), (36, .int .u64 (IntKind.u64.wrap ((a0.getD a1.toNat zS69).f4))), (39, .int .u64 (IntKind.u64.wrap ((a0.getD a1.toNat zS69).f5)))] (by kernel_rfl) ?_
    obtain ⟨b6, d1, H⟩ := lt_out H
    refine EL.of (EO.lit hS (Kd.int .u64) 116 134 6 #[(0, .int .u64 (IntKind.u64.wrap ((a0.getD a1.toNat zS69).f0))), (1, .int .u64 (IntKind.u64.wrap ((a0.getD a1.toNat zS69).f1))), (2, .int .u64 (IntKind.u64.wrap ((a0.getD a1.toNat zS69).f2))), (3, .int .u64 (IntKind.u64.wrap (IntKind.u32.wrap ((a0.getD a1.toNat zS69).f3)))), (4, .int .u64 (IntKind.u64.wrap ((a0.getD a1.toNat zS69).f4))), (5, .int .u64 (IntKind.u64.wrap ((a0.getD a1.toNat zS69).f5)))] [.int .u64 (IntKind.u64.wrap ((a0.getD a1.toNat zS69).f0)), .int .u64 (IntKind.u64.wrap ((a0.getD a1.toNat zS69).f1)), .int .u64 (IntKind.u64.wrap ((a0.getD a1.toNat zS69).f2)), .int .u64 (IntKind.u64.wrap (IntKind.u32.wrap ((a0.getD a1.toNat zS69).f3))), .int .u64 (IntKind.u64.wrap ((a0.getD a1.toNat zS69).f4)), .int .u64 (IntKind.u64.wrap ((a0.getD a1.toNat zS69).f5))] b6 40 (by kernel_rfl) (by kernel_rfl) (by kernel_rfl) (fun _ => (by kernel_rfl)) (by rw [d1]; rfl) (by kernel_rfl) (fun w G hr => (by rw [d1]; exact ⟨[.int .u64 (IntKind.u64.wrap ((a0.getD a1.toNat zS69).f0))], [.int .u64 (IntKind.u64.wrap ((a0.getD a1.toNat zS69).f1)), .int .u64 (IntKind.u64.wrap ((a0.getD a1.toNat zS69).f2)), .int .u64 (IntKind.u64.wrap (IntKind.u32.wrap ((a0.getD a1.toNat zS69).f3))), .int .u64 (IntKind.u64.wrap ((a0.getD a1.toNat zS69).f4)), .int .u64 (IntKind.u64.wrap ((a0.getD a1.toNat zS69).f5))], rfl, rfl, ⟨[.int .u64 (IntKind.u64.wrap ((a0.getD a1.toNat zS69).f1))], [.int .u64 (IntKind.u64.wrap ((a0.getD a1.toNat zS69).f2)), .int .u64 (IntKind.u64.wrap (IntKind.u32.wrap ((a0.getD a1.toNat zS69).f3))), .int .u64 (IntKind.u64.wrap ((a0.getD a1.toNat zS69).f4)), .int .u64 (IntKind.u64.wrap ((a0.getD a1.toNat zS69).f5))], rfl, rfl, ⟨[.int .u64 (IntKind.u64.wrap ((a0.getD a1.toNat zS69).f2))], [.int .u64 (IntKind.u64.wrap (IntKind.u32.wrap ((a0.getD a1.toNat zS69).f3))), .int .u64 (IntKind.u64.wrap ((a0.getD a1.toNat zS69).f4)), .int .u64 (IntKind.u64.wrap ((a0.getD a1.toNat zS69).f5))], rfl, rfl, ⟨[.int .u64 (IntKind.u64.wrap (IntKind.u32.wrap ((a0.getD a1.toNat zS69).f3)))], [.int .u64 (IntKind.u64.wrap ((a0.getD a1.toNat zS69).f4)), .int .u64 (IntKind.u64.wrap ((a0.getD a1.toNat zS69).f5))], rfl, rfl, ⟨[.int .u64 (IntKind.u64.wrap ((a0.getD a1.toNat zS69).f4))], [.int .u64 (IntKind.u64.wrap ((a0.getD a1.toNat zS69).f5))], rfl, rfl, ⟨[.int .u64 (IntKind.u64.wrap ((a0.getD a1.toNat zS69).f5))], [], rfl, rfl, rfl⟩⟩⟩⟩⟩⟩)) ?_)
    intro c3 w hS
    have hS := St.fr hS 0 rfl
    have hS : St B _ (Ass.box 69 a8 [.int .i64 ((a0.getD a1.toNat zS69).f0), .int .i64 ((a0.getD a1.toNat zS69).f1), .int .i64 ((a0.getD a1.toNat zS69).f2), .int .i32 ((a0.getD a1.toNat zS69).f3), .int .i64 ((a0.getD a1.toNat zS69).f4), .int .i32 ((a0.getD a1.toNat zS69).f5)] :: Ass.own 5 (Kd.int .u8) a5 a6 a4 :: os) (Ro.sl (Kd.int .u64) (some ⟨c3, 0, none⟩) 6 b6 :: Ro.sl (Kd.int .u64) (some ⟨c3, 0, none⟩) 6 b6 :: Ro.sl (Kd.int .u64) (some ⟨b2, 0, none⟩) 1 a9 :: Ro.sl (Kd.int .u64) (some ⟨b2, 0, none⟩) 1 a9 :: Ro.sl kS69 (some a7) a2 a0 :: Ro.sl kS69 (some a7) a2 a0 :: rs) := hS.re [] [] rfl (sub_cons 0 rfl sub_self)
    obtain ⟨b9, d5, H⟩ := b1_out H
    refine EL.of (EO.callD 51 [.slice (some ⟨c3, 0, none⟩) b6.length 6] _ 41 (by kernel_rfl) (by kernel_rfl) (by kernel_rfl) (pack_Put.calls d5 hS) ?_)
    rintro v w ⟨c7, c9, rfl, hS⟩
    obtain ⟨d2, H⟩ := ite_in H
    obtain ⟨b0, d6, H⟩ := lt_out H
    refine EL.of (EO.append hS 75 75 5 1 2 (Kd.int .u8) a5 a6 a4 rfl c7 c9 b9 (Rd.own 0 5 rfl) b0 d6 (fun b3 b4 => Ass.own 5 (Kd.int .u8) c7 c9 b9 :: Ass.box 69 a8 [.int .i64 ((a0.getD a1.toNat zS69).f0), .int .i64 ((a0.getD a1.toNat zS69).f1), .int .i64 ((a0.getD a1.toNat zS69).f2), .int .i32 ((a0.getD a1.toNat zS69).f3), .int .i64 ((a0.getD a1.toNat zS69).f4), .int .i32 ((a0.getD a1.toNat zS69).f5)] :: Ass.own 5 (Kd.int .u8) b3 b4 b0 :: os) 42 (by kernel_rfl) (by kernel_rfl) (by kernel_rfl) (by kernel_rfl) d2 (fun _ _ => rfl) ?_)
    intro b3 b4 w hS
    refine EL.quick 1 [3, 14, 15, 16] [(3, .slice b3 b0.length b4), (14, .slice (some a7) a0.length a2), (15, .int .i64 (a0.length : Int)), (16, .int .i64 a1)] (by kernel_rfl) ?_
    refine EL.done (by kernel_rfl) ?_
    refine EQ.pop ?_
    refine EQ.code ?_
    refine EW.region (id := 8) (ops := Cd33.r.r.r.l.r.l.l.r.r.r.ops) (by kernel_rfl) ?_
    refine EL.quick 2 [3, 14, 15, 16] [(3, .slice b3 b0.length b4), (14, .slice (some a7) a0.length a2), (15, .int .i64 (a0.length : Int)), (16, .int .i64 (IntKind.i64.wrap (a1 + 1)))] (by kernel_rfl) ?_
    refine EL.done (by kernel_rfl) ?_
    refine EQ.to ?_
    refine EQ.keep [3, 14, 15, 16] [(3, .slice b3 b0.length b4), (14, .slice (some a7) a0.length a2), (15, .int .i64 (a0.length : Int)), (16, .int .i64 (IntKind.i64.wrap (a1 + 1)))] (by kernel_rfl) ?_
    exact fun a ha => ⟨n, Nat.lt_succ_self n, b0, IntKind.i64.wrap (a1 + 1), b3, b4, ha, (hS.re [2] [1, 1] rfl (sub_cons 2 rfl (sub_cons 2 rfl (sub_cons 4 rfl (sub_cons 4 rfl (sub_tail (sub_tail (sub_tail (sub_tail (sub_tail (sub_tail (sub_self)))))))))))), H⟩
   ·rw [if_neg b5] at H
    refine EW.exit (id := 0) (by kernel_rfl) ?_
    refine EQ.exitCode ?_
    refine EQ.exitTo ?_
    refine EQ.exitHere ?_
    refine EQ.code ?_
    refine EW.seq (x := Cd33.r.r.r.r.l) (y := Cd33.r.r.r.r.r) (by kernel_rfl) ?_
    refine EW.region (id := 9) (ops := Cd33.r.r.r.r.l.ops) (by kernel_rfl) ?_
    refine EL.quick 2 [2] [(2, .slice a5 a4.length a6)] (by kernel_rfl) ?_
    refine EL.done (by kernel_rfl) ?_
    refine EQ.code ?_
    refine EW.ret (by kernel_rfl) ?_
    obtain rfl := Option.some.inj H
    exact EQ.leave (.slice a5 a4.length a6) (by kernel_rfl) ⟨_, rfl, a5, a6, rfl, (hS.re [0] [] rfl (sub_tail (sub_tail (sub_tail (sub_self)))))⟩
 ·rw [if_neg c4] at H
  refine EW.seq (x := Cd33.r.l.r.l.l) (y := Cd33.r.l.r.l.r) (by kernel_rfl) ?_
  refine EW.region (id := 2) (ops := Cd33.r.l.r.l.l.ops) (by kernel_rfl) ?_
  refine EL.quick 1 [2] [(2, .slice none ([] : List Int).length 0)] (by kernel_rfl) ?_
  refine EL.done (by kernel_rfl) ?_
  refine EQ.code ?_
  refine EW.ret (by kernel_rfl) ?_
  refine EQ.ret ?_
  have hS := St.nilO hS 5 (Kd.int .u8)
  obtain rfl := Option.some.inj H
  exact EQ.leave (.slice none ([] : List Int).length 0) (by kernel_rfl) ⟨_, rfl, none, 0, rfl, (hS.re [0] [] rfl (sub_tail (sub_self)))⟩

/-! ### confidant/pack.New: function 57 -/
def pack_New.f (K : Nat) (a0 : List Int) : Option (List Int × Int) := some (a0, 0)
set_option maxRecDepth 100000 in
theorem pack_New.calls {K : Nat} {a0 : List Int} {a1 : Option Addr} {a2 : Nat} {a4 : List Int} {a8 : Int} {B w : World} {os : List Ass} {rs : List Ro} (H : pack_New.f K a0 = some (a4, a8)) (hS : St B w (os) (Ro.sl (Kd.int .u8) a1 a2 a0 :: rs)) :
  Calls Try.prog 57 [.slice a1 a0.length a2].toArray w (fun en w' => ∃ v, en = .returned v ∧ ∃ a7 : Nat, ∃ a5 : Option Addr, ∃ a6 : Nat, v = .pointer (some ⟨a7, 0, none⟩) ∧ St B w' (Ass.box 138 a7 [.slice a5 a4.length a6, .int .i64 a8] :: os) (Ro.sl (Kd.int .u8) a5 a6 a4 :: Ro.sl (Kd.int .u8) a1 a2 a0 :: rs)) := by
 unfold pack_New.f at H
 refine calls_of_EW (args := [.slice a1 a0.length a2]) (c := Cd57) 6 Try.func57 (by kernel_rfl) (by kernel_rfl) (by kernel_rfl) ?_
 refine EW.seq (x := Cd57.l) (y := Cd57.r) (by kernel_rfl) ?_
 refine EW.region (id := 0) (ops := Cd57.l.ops) (by kernel_rfl) ?_
 refine EL.quick 1 [0] [(0, .slice a1 a0.length a2)] (by kernel_rfl) ?_
 refine EL.done (by kernel_rfl) ?_
 refine EQ.code ?_
 refine EW.seq (x := Cd57.r.l) (y := Cd57.r.r) (by kernel_rfl) ?_
 refine EW.region (id := 1) (ops := Cd57.r.l.ops) (by kernel_rfl) ?_
 refine EL.quick 2 [4] [(4, .agg #[.slice a1 a0.length a2, .int .i64 0])] (by kernel_rfl) ?_
 refine EL.of (EO.box hS 138 (.agg #[.slice a1 a0.length a2, .int .i64 0]) [.slice a1 a0.length a2, .int .i64 0] 5 (by kernel_rfl) (by kernel_rfl) (by kernel_rfl) (by first | rfl | kernel_rfl) ?_)
 intro a3 w hS
 refine EL.quick 1 [2] [(2, .pointer (some ⟨a3, 0, none⟩))] (by kernel_rfl) ?_
 refine EL.done (by kernel_rfl) ?_
 refine EQ.code ?_
 refine EW.ret (by kernel_rfl) ?_
 simp only [Option.some.injEq, Prod.mk.injEq] at H
 obtain ⟨rfl, rfl⟩ := H
 exact EQ.leave (.pointer (some ⟨a3, 0, none⟩)) (by kernel_rfl) ⟨_, rfl, a3, a1, a2, rfl, (hS.re [0] [] rfl (sub_cons 0 rfl (sub_self)))⟩

/-! ### (*confidant/pack.Reader).fail: function 71 -/
def pack_Reader_fail.f (K : Nat) (a3 : List Int) (a2 : Int) (a0 : Int) : Option (List Int × Int × Int) := some (([] : List Int), a0, 0)
set_option maxRecDepth 100000 in
theorem pack_Reader_fail.calls {K : Nat} {a3 : List Int} {a2 : Int} {a0 : Int} {a1 : Nat} {a4 : Option Addr} {a5 : Nat} {a6 : List Int} {a9 : Int} {b0 : Int} {B w : World} {os : List Ass} {rs : List Ro} (H : pack_Reader_fail.f K a3 a2 a0 = some (a6, a9, b0)) (hS : St B w (Ass.box 138 a1 [.slice a4 a3.length a5, .int .i64 a2] :: os) (Ro.sl (Kd.int .u8) a4 a5 a3 :: rs)) :
  Calls Try.prog 71 [.pointer (some ⟨a1, 0, none⟩), .int .i64 a0].toArray w (fun en w' => ∃ v, en = .returned v ∧ ∃ a7 : Option Addr, ∃ a8 : Nat, v = .int .u64 b0 ∧ St B w' (Ass.box 138 a1 [.slice a7 a6.length a8, .int .i64 a9] :: Ass.own 5 (Kd.int .u8) a7 a8 a6 :: os) (Ro.sl (Kd.int .u8) a4 a5 a3 :: rs)) := by
 unfold pack_Reader_fail.f at H
 refine calls_of_EW (args := [.pointer (some ⟨a1, 0, none⟩), .int .i64 a0]) (c := Cd71) 12 Try.func71 (by kernel_rfl) (by kernel_rfl) (by kernel_rfl) ?_
 refine EW.seq (x := Cd71.l) (y := Cd71.r) (by kernel_rfl) ?_
 refine EW.region (id := 0) (ops := Cd71.l.ops) (by kernel_rfl) ?_
 refine EL.quick 1 [0, 1] [(0, .pointer (some ⟨a1, 0, none⟩)), (1, .int .i64 a0)] (by kernel_rfl) ?_
 refine EL.done (by kernel_rfl) ?_
 refine EQ.code ?_
 refine EW.seq (x := Cd71.r.l) (y := Cd71.r.r) (by kernel_rfl) ?_
 refine EW.region (id := 1) (ops := Cd71.r.l.ops) (by kernel_rfl) ?_
 refine EL.quick 5 [6, 7, 9] [(6, .pointer (some ⟨a1, 0, none⟩)), (7, .int .i64 a0), (9, .pointer (some ⟨a1, 0, none⟩))] (by kernel_rfl) ?_
 refine EL.of (EO.storeBox (os' := Ass.box 138 a1 [.slice none ([] : List Int).length 0, .int .i64 a2] :: os) hS 0 rfl 75 0 (.slice none ([] : List Int).length 0) [.slice none ([] : List Int).length 0, .int .i64 a2] (by kernel_rfl) (by kernel_rfl) (by kernel_rfl) (by kernel_rfl) (by kernel_rfl) (by kernel_rfl) rfl rfl ?_)
 intro w hS
 refine EL.quick 2 [7, 11] [(7, .int .i64 a0), (11, .pointer (some ⟨a1, 1, none⟩))] (by kernel_rfl) ?_
 refine EL.of (EO.storeBox (os' := Ass.box 138 a1 [.slice none ([] : List Int).length 0, .int .i64 a0] :: os) hS 0 rfl 57 1 (.int .i64 a0) [.slice none ([] : List Int).length 0, .int .i64 a0] (by kernel_rfl) (by kernel_rfl) (by kernel_rfl) (by kernel_rfl) (by kernel_rfl) (by kernel_rfl) rfl rfl ?_)
 intro w hS
 refine EL.done (by kernel_rfl) ?_
 refine EQ.code ?_
 refine EW.seq (x := Cd71.r.r.l) (y := Cd71.r.r.r) (by kernel_rfl) ?_
 refine EW.region (id := 2) (ops := Cd71.r.r.l.ops) (by kernel_rfl) ?_
 refine EL.quick 1 [4] [(4, .int .u64 0)] (by kernel_rfl) ?_
 refine EL.done (by kernel_rfl) ?_
 refine EQ.code ?_
 refine EW.ret (by kernel_rfl) ?_
 have hS := St.nilO hS 5 (Kd.int .u8)
 simp only [Option.some.injEq, Prod.mk.injEq] at H
 obtain ⟨rfl, rfl, rfl⟩ := H
 exact EQ.leave (.int .u64 0) (by kernel_rfl) ⟨_, rfl, none, 0, rfl, (hS.re [0, 1] [] rfl (sub_self))⟩

/-! ### (*confidant/pack.Reader).Num: function 59 -/
def pack_Reader_Num.l0 (K : Nat) (a0 : List Int) (a7 : Int) (a4 : Int) (b1 : Option (List Int × Int × Int)) : Nat → Int → Int → Option (List Int × Int × Int)
 | 0, _, _ => none
 | n + 1, a5, a1 => if a1 < (a0.length : Int) then (lt (fun (b0 : Int) => (pack_Reader_Num.l0 K a0 a7 a4 b1 n b0 (IntKind.i64.wrap (a1 + 1)))) fun d2 => (if 0 ≤ a1 then (lt (fun (b8 : Bool) => (if b8 = true then (b3 (pack_Reader_fail.f K a0 a7 20) fun (d5 : List Int) (d6 : Int) (c4 : Int) => (some (d5, d6, c4))) else (lt (bO .u64 (sL .u64 a5 7) (IntKind.u64.wrap (bN .u8 (a0.getD a1.toNat 0) 128))) fun a9 => (if (bA .u8 (a0.getD a1.toNat 0) 128) = 0 then (if a9 > a4 then (b3 (pack_Reader_fail.f K a0 a7 22) fun (d7 : List Int) (d8 : Int) (c5 : Int) => (some (d7, d8, c5))) else (if 0 ≤ (IntKind.i64.wrap (a1 + 1)) then (if (IntKind.i64.wrap (a1 + 1)) ≤ (a0.length : Int) then (lt (a0.drop ((IntKind.i64.wrap (a1 + 1)).toNat)) fun b2 => (some (b2, a7, a9))) else none) else none)) else (d2 a9))))) fun c1 => (if a1 = 0 then (if (a0.getD a1.toNat 0) = 128 then (c1 true) else (c1 (!(decide ((sR .u64 a5 57) = 0))))) else (c1 (!(decide ((sR .u64 a5 57) = 0)))))) else none)) else (b1)
def pack_Reader_Num.f (K : Nat) (a0 : List Int) (a7 : Int) (a4 : Int) : Option (List Int × Int × Int) := if a7 = 0 then (lt (b3 (pack_Reader_fail.f K a0 a7 21) fun (d9 : List Int) (e0 : Int) (c6 : Int) => (some (d9, e0, c6))) fun b1 => (pack_Reader_Num.l0 K a0 a7 a4 b1 K 0 0)) else (some (a0, a7, 0))
set_option maxRecDepth 100000 in
theorem pack_Reader_Num.calls {K : Nat} {a0 : List Int} {a7 : Int} {a4 : Int} {a2 : Nat} {a8 : Option Addr} {a3 : Nat} {b4 : List Int} {b6 : Int} {b7 : Int} {B w : World} {os : List Ass} {rs : List Ro} (H : pack_Reader_Num.f K a0 a7 a4 = some (b4, b6, b7)) (hS : St B w (Ass.box 138 a2 [.slice a8 a0.length a3, .int .i64 a7] :: os) (Ro.sl (Kd.int .u8) a8 a3 a0 :: rs)) :
  Calls Try.prog 59 [.pointer (some ⟨a2, 0, none⟩), .int .u64 a4].toArray w (fun en w' => ∃ v, en = .returned v ∧ ∃ d3 : Option Addr, ∃ d4 : Nat, v = .int .u64 b7 ∧ St B w' (Ass.box 138 a2 [.slice d3 b4.length d4, .int .i64 b6] :: os) (Ro.sl (Kd.int .u8) d3 d4 b4 :: Ro.sl (Kd.int .u8) a8 a3 a0 :: rs)) := by
 unfold pack_Reader_Num.f at H
 refine calls_of_EW (args := [.pointer (some ⟨a2, 0, none⟩), .int .u64 a4]) (c := Cd59) 64 Try.func59 (by kernel_rfl) (by kernel_rfl) (by kernel_rfl) ?_
 refine EW.seq (x := Cd59.l) (y := Cd59.r) (by kernel_rfl) ?_
 refine EW.region (id := 0) (ops := Cd59.l.ops) (by kernel_rfl) ?_
 refine EL.quick 1 [0, 1] [(0, .pointer (some ⟨a2, 0, none⟩)), (1, .int .u64 a4)] (by kernel_rfl) ?_
 refine EL.done (by kernel_rfl) ?_
 refine EQ.code ?_
 refine EW.seq (x := Cd59.r.l) (y := Cd59.r.r) (by kernel_rfl) ?_
 refine EW.seq (x := Cd59.r.l.l) (y := Cd59.r.l.r) (by kernel_rfl) ?_
 refine EW.region (id := 1) (ops := Cd59.r.l.l.ops) (by kernel_rfl) ?_
 refine EL.quick 3 [0, 1, 10] [(0, .pointer (some ⟨a2, 0, none⟩)), (1, .int .u64 a4), (10, .pointer (some ⟨a2, 1, none⟩))] (by kernel_rfl) ?_
 refine EL.of (EO.Y (YO.loadBox hS 0 rfl 57 1 1 (.int .i64 a7) 11 (by kernel_rfl) (by kernel_rfl) (by kernel_rfl) (by kernel_rfl)) ?_)
 refine EL.quick 1 [0, 1, 12] [(0, .pointer (some ⟨a2, 0, none⟩)), (1, .int .u64 a4), (12, .bool (!(decide (a7 = 0))))] (by kernel_rfl) ?_
 refine EL.done (by kernel_rfl) ?_
 refine EQ.code ?_
 refine EW.condQ (b := !(decide (a7 = 0))) (o := (.tmp 12)) (x := Cd59.r.l.r.l) (y := Cd59.r.l.r.r) (a7 = 0) (false) (by kernel_rfl) (by kernel_rfl) ⟨fun h => (by rw [decide_eq_true h] <;> rfl), fun h => (by rw [decide_eq_false h] <;> rfl)⟩ (fun c7 => ?_) (fun c7 => ?_)
 ·rw [if_pos c7] at H
  refine EW.skip (by kernel_rfl) ?_
  refine EQ.code ?_
  refine EW.seq (x := Cd59.r.r.l) (y := Cd59.r.r.r) (by kernel_rfl) ?_
  refine EW.region (id := 3) (ops := Cd59.r.r.l.ops) (by kernel_rfl) ?_
  refine EL.quick 1 [0, 1, 5] [(0, .pointer (some ⟨a2, 0, none⟩)), (1, .int .u64 a4), (5, .int .u64 0)] (by kernel_rfl) ?_
  refine EL.done (by kernel_rfl) ?_
  refine EQ.code ?_
  obtain ⟨b1, f0, H⟩ := lt_out H
  refine EW.cut (x := Cd59.r.r.r.l) (y := Cd59.r.r.r.r) (fun a w => Sat 64 [(0, .pointer (some ⟨a2, 0, none⟩))] a ∧ St B w (Ass.box 138 a2 [.slice a8 a0.length a3, .int .i64 a7] :: os) (Ro.sl (Kd.int .u8) a8 a3 a0 :: rs) ∧ b1 = some (b4, b6, b7)) (by kernel_rfl) ?_ (fun a w hI => ?_)
  ·refine EW.seq (x := Cd59.r.r.r.l.l) (y := Cd59.r.r.r.l.r) (by kernel_rfl) ?_
   refine EW.region (id := 4) (ops := Cd59.r.r.r.l.l.ops) (by kernel_rfl) ?_
   refine EL.quick 3 [0, 1, 5, 15] [(0, .pointer (some ⟨a2, 0, none⟩)), (1, .int .u64 a4), (5, .int .u64 0), (15, .pointer (some ⟨a2, 0, none⟩))] (by kernel_rfl) ?_
   refine EL.of (EO.Y (YO.loadBox hS 0 rfl 75 0 1 (.slice a8 a0.length a3) 16 (by kernel_rfl) (by kernel_rfl) (by kernel_rfl) (by kernel_rfl)) ?_)
   refine EL.quick 2 [0, 1, 5, 16, 17, 18] [(0, .pointer (some ⟨a2, 0, none⟩)), (1, .int .u64 a4), (5, .int .u64 0), (16, .slice a8 a0.length a3), (17, .int .i64 (a0.length : Int)), (18, .int .i64 0)] (by kernel_rfl) ?_
   refine EL.done (by kernel_rfl) ?_
   refine EQ.code ?_
   refine EW.block (x := Cd59.r.r.r.l.r.l) (id := 0) (by kernel_rfl) ?_
   refine EW.loop (x := Cd59.r.r.r.l.r.l.l) (fun n a w => ∃ a5 : Int, ∃ a1 : Int, Sat 64 [(0, .pointer (some ⟨a2, 0, none⟩)), (1, .int .u64 a4), (5, .int .u64 a5), (16, .slice a8 a0.length a3), (17, .int .i64 (a0.length : Int)), (18, .int .i64 a1)] a ∧ St B w (Ass.box 138 a2 [.slice a8 a0.length a3, .int .i64 a7] :: os) (Ro.sl (Kd.int .u8) a8 a3 a0 :: rs) ∧ pack_Reader_Num.l0 K a0 a7 a4 b1 n a5 a1 = some (b4, b6, b7)) K (by kernel_rfl) ?_ (fun n a w hI => ?_)
   ·refine EQ.keep [0, 1, 5, 16, 17, 18] [(0, .pointer (some ⟨a2, 0, none⟩)), (1, .int .u64 a4), (5, .int .u64 0), (16, .slice a8 a0.length a3), (17, .int .i64 (a0.length : Int)), (18, .int .i64 0)] (by kernel_rfl) ?_
    exact fun a ha => ⟨0, 0, ha, (hS.re [0] [] rfl (sub_cons 0 rfl (sub_tail (sub_self)))), H⟩
   ·obtain ⟨a5, a1, ha, hS, H⟩ := hI
    obtain _ | n := n
    ·simp [pack_Reader_Num.l0] at H
    rw [pack_Reader_Num.l0.eq_2] at H
    refine EW.at ?_ a ha
    clear ha a
    refine EW.seq (x := Cd59.r.r.r.l.r.l.l.l) (y := Cd59.r.r.r.l.r.l.l.r) (by kernel_rfl) ?_
    refine EW.region (id := 5) (ops := Cd59.r.r.r.l.r.l.l.l.ops) (by kernel_rfl) ?_
    refine EL.quick 1 [0, 1, 5, 16, 17, 18, 19] [(0, .pointer (some ⟨a2, 0, none⟩)), (1, .int .u64 a4), (5, .int .u64 a5), (16, .slice a8 a0.length a3), (17, .int .i64 (a0.length : Int)), (18, .int .i64 a1), (19, .bool (decide (a1 < (a0.length : Int))))] (by kernel_rfl) ?_
    refine EL.done (by kernel_rfl) ?_
    refine EQ.code ?_
    refine EW.seq (x := Cd59.r.r.r.l.r.l.l.r.l) (y := Cd59.r.r.r.l.r.l.l.r.r) (by kernel_rfl) ?_
    refine EW.condP (o := (.tmp 19)) (x := Cd59.r.r.r.l.r.l.l.r.l.l) (y := Cd59.r.r.r.l.r.l.l.r.l.r) (a1 < (a0.length : Int)) (by kernel_rfl) (by kernel_rfl) (fun b5 => ?_) (fun b5 => ?_)
    ·rw [if_pos b5] at H
     refine EW.skip (by kernel_rfl) ?_
     refine EQ.code ?_
     obtain ⟨d2, f1, H⟩ := lt_out H
     refine EW.cut (x := Cd59.r.r.r.l.r.l.l.r.r.l) (y := Cd59.r.r.r.l.r.l.l.r.r.r) (fun a w => ∃ b0 : Int, Sat 64 [(0, .pointer (some ⟨a2, 0, none⟩)), (1, .int .u64 a4), (5, .int .u64 b0), (16, .slice a8 a0.length a3), (17, .int .i64 (a0.length : Int)), (18, .int .i64 a1)] a ∧ St B w (Ass.box 138 a2 [.slice a8 a0.length a3, .int .i64 a7] :: os) (Ro.sl (Kd.int .u8) a8 a3 a0 :: rs) ∧ d2 b0 = some (b4, b6, b7)) (by kernel_rfl) ?_ (fun a w hI => ?_)
     ·refine EW.block (x := Cd59.r.r.r.l.r.l.l.r.r.l.l) (id := 1) (by kernel_rfl) ?_
      refine EW.seq (x := Cd59.r.r.r.l.r.l.l.r.r.l.l.l) (y := Cd59.r.r.r.l.r.l.l.r.r.l.l.r) (by kernel_rfl) ?_
      refine EW.region (id := 6) (ops := Cd59.r.r.r.l.r.l.l.r.r.l.l.l.ops) (by kernel_rfl) ?_
      refine EL.quick 1 [0, 1, 5, 16, 17, 18, 20] [(0, .pointer (some ⟨a2, 0, none⟩)), (1, .int .u64 a4), (5, .int .u64 a5), (16, .slice a8 a0.length a3), (17, .int .i64 (a0.length : Int)), (18, .int .i64 a1), (20, .int .i64 a1)] (by kernel_rfl) ?_
      obtain ⟨c8, H⟩ := ite_in H
      obtain ⟨a6, rfl⟩ := St.rd_some hS (Rd.ro 0 rfl) c8 b5
      refine EL.of (EO.Y (YO.idx 75 1 a6 a0.length a3 .i64 a1 21 (by kernel_rfl) (by kernel_rfl) (by kernel_rfl) (by kernel_rfl) c8 b5) ?_)
      refine EL.of (EO.Y (YO.loadEl hS (Kd.int .u8) a6 a3 a0 (Rd.ro 0 rfl) 0 (encI .u8) encI_of a1 c8 b5 5 1 0 1 rfl (.int .u8 (a0.getD a1.toNat 0)) 22 (by kernel_rfl) (by kernel_rfl) (by kernel_rfl) (by kernel_rfl)) ?_)
      refine EL.quick 2 [0, 1, 5, 6, 7, 16, 17, 18] [(0, .pointer (some ⟨a2, 0, none⟩)), (1, .int .u64 a4), (5, .int .u64 a5), (6, .int .i64 a1), (7, .int .u8 (a0.getD a1.toNat 0)), (16, .slice (some a6) a0.length a3), (17, .int .i64 (a0.length : Int)), (18, .int .i64 a1)] (by kernel_rfl) ?_
      refine EL.done (by kernel_rfl) ?_
      refine EQ.code ?_
      refine EW.seq (x := Cd59.r.r.r.l.r.l.l.r.r.l.l.r.l) (y := Cd59.r.r.r.l.r.l.l.r.r.l.l.r.r) (by kernel_rfl) ?_
      obtain ⟨c1, f2, H⟩ := lt_out H
      refine EW.cut (x := Cd59.r.r.r.l.r.l.l.r.r.l.l.r.l.l) (y := Cd59.r.r.r.l.r.l.l.r.r.l.l.r.l.r) (fun a w => ∃ b8 : Bool, Sat 64 [(0, .pointer (some ⟨a2, 0, none⟩)), (1, .int .u64 a4), (5, .int .u64 a5), (6, .int .i64 a1), (7, .int .u8 (a0.getD a1.toNat 0)), (16, .slice (some a6) a0.length a3), (17, .int .i64 (a0.length : Int)), (18, .int .i64 a1), (33, .bool (b8))] a ∧ St B w (Ass.box 138 a2 [.slice (some a6) a0.length a3, .int .i64 a7] :: os) (Ro.sl (Kd.int .u8) (some a6) a3 a0 :: rs) ∧ c1 b8 = some (b4, b6, b7)) (by kernel_rfl) ?_ (fun a w hI => ?_)
      ·refine EW.region (id := 7) (ops := Cd59.r.r.r.l.r.l.l.r.r.l.l.r.l.l.ops) (by kernel_rfl) ?_
       refine EL.quick 3 [0, 1, 5, 6, 7, 16, 17, 18, 25] [(0, .pointer (some ⟨a2, 0, none⟩)), (1, .int .u64 a4), (5, .int .u64 a5), (6, .int .i64 a1), (7, .int .u8 (a0.getD a1.toNat 0)), (16, .slice (some a6) a0.length a3), (17, .int .i64 (a0.length : Int)), (18, .int .i64 a1), (25, .bool (decide (a1 = 0)))] (by kernel_rfl) ?_
       by_cases c2 : a1 = 0
       ·rw [if_pos c2] at H
        refine EL.keep [0, 1, 5, 6, 7, 16, 17, 18, 25] [(0, .pointer (some ⟨a2, 0, none⟩)), (1, .int .u64 a4), (5, .int .u64 a5), (6, .int .i64 a1), (7, .int .u8 (a0.getD a1.toNat 0)), (16, .slice (some a6) a0.length a3), (17, .int .i64 (a0.length : Int)), (18, .int .i64 a1), (25, .bool (decide (a1 = 0)))] (by kernel_rfl) ?_
        refine EL.as' [(0, .pointer (some ⟨a2, 0, none⟩)), (1, .int .u64 a4), (5, .int .u64 a5), (6, .int .i64 a1), (7, .int .u8 (a0.getD a1.toNat 0)), (16, .slice (some a6) a0.length a3), (17, .int .i64 (a0.length : Int)), (18, .int .i64 a1), (25, .bool (true))] (by simp only [dec_t c2, Bool.not_true, Bool.not_false]) ?_
        refine EL.quick 4 [0, 1, 5, 6, 7, 16, 17, 18, 26, 27, 29] [(0, .pointer (some ⟨a2, 0, none⟩)), (1, .int .u64 a4), (5, .int .u64 a5), (6, .int .i64 a1), (7, .int .u8 (a0.getD a1.toNat 0)), (16, .slice (some a6) a0.length a3), (17, .int .i64 (a0.length : Int)), (18, .int .i64 a1), (26, .int .u8 (a0.getD a1.toNat 0)), (27, .bool (decide ((a0.getD a1.toNat 0) = 128))), (29, .bool (decide ((a0.getD a1.toNat 0) = 128)))] (by kernel_rfl) ?_
        by_cases c3 : (a0.getD a1.toNat 0) = 128
        ·rw [if_pos c3] at H
         refine EL.keep [0, 1, 5, 6, 7, 16, 17, 18, 26, 27, 29] [(0, .pointer (some ⟨a2, 0, none⟩)), (1, .int .u64 a4), (5, .int .u64 a5), (6, .int .i64 a1), (7, .int .u8 (a0.getD a1.toNat 0)), (16, .slice (some a6) a0.length a3), (17, .int .i64 (a0.length : Int)), (18, .int .i64 a1), (26, .int .u8 (a0.getD a1.toNat 0)), (27, .bool (decide ((a0.getD a1.toNat 0) = 128))), (29, .bool (decide ((a0.getD a1.toNat 0) = 128)))] (by kernel_rfl) ?_
         refine EL.as' [(0, .pointer (some ⟨a2, 0, none⟩)), (1, .int .u64 a4), (5, .int .u64 a5), (6, .int .i64 a1), (7, .int .u8 (a0.getD a1.toNat 0)), (16, .slice (some a6) a0.length a3), (17, .int .i64 (a0.length : Int)), (18, .int .i64 a1), (26, .int .u8 (a0.getD a1.toNat 0)), (27, .bool (true)), (29, .bool (true))] (by simp only [dec_t c3, Bool.not_true, Bool.not_false]) ?_
         refine EL.quick 4 [0, 1, 5, 6, 7, 16, 17, 18, 26, 27, 33] [(0, .pointer (some ⟨a2, 0, none⟩)), (1, .int .u64 a4), (5, .int .u64 a5), (6, .int .i64 a1), (7, .int .u8 (a0.getD a1.toNat 0)), (16, .slice (some a6) a0.length a3), (17, .int .i64 (a0.length : Int)), (18, .int .i64 a1), (26, .int .u8 (a0.getD a1.toNat 0)), (27, .bool (true)), (33, .bool (true))] (by kernel_rfl) ?_
         refine EL.done (by kernel_rfl) ?_
         refine EQ.to ?_
         refine EQ.keep [0, 1, 5, 6, 7, 16, 17, 18, 33] [(0, .pointer (some ⟨a2, 0, none⟩)), (1, .int .u64 a4), (5, .int .u64 a5), (6, .int .i64 a1), (7, .int .u8 (a0.getD a1.toNat 0)), (16, .slice (some a6) a0.length a3), (17, .int .i64 (a0.length : Int)), (18, .int .i64 a1), (33, .bool (true))] (by kernel_rfl) ?_
         exact fun a ha => ⟨true, ha, (hS.re [0] [] rfl (sub_cons 0 rfl (sub_tail (sub_self)))), H⟩
        ·rw [if_neg c3] at H
         refine EL.keep [0, 1, 5, 6, 7, 16, 17, 18, 26, 27, 29] [(0, .pointer (some ⟨a2, 0, none⟩)), (1, .int .u64 a4), (5, .int .u64 a5), (6, .int .i64 a1), (7, .int .u8 (a0.getD a1.toNat 0)), (16, .slice (some a6) a0.length a3), (17, .int .i64 (a0.length : Int)), (18, .int .i64 a1), (26, .int .u8 (a0.getD a1.toNat 0)), (27, .bool (decide ((a0.getD a1.toNat 0) = 128))), (29, .bool (decide ((a0.getD a1.toNat 0) = 128)))] (by kernel_rfl) ?_
         refine EL.as' [(0, .pointer (some ⟨a2, 0, none⟩)), (1, .int .u64 a4), (5, .int .u64 a5), (6, .int .i64 a1), (7, .int .u8 (a0.getD a1.toNat 0)), (16, .slice (some a6) a0.length a3), (17, .int .i64 (a0.length : Int)), (18, .int .i64 a1), (26, .int .u8 (a0.getD a1.toNat 0)), (27, .bool (false)), (29, .bool (false))] (by simp only [dec_f c3, Bool.not_true, Bool.not_false]) ?_
         refine EL.quick 4 [0, 1, 5, 6, 7, 16, 17, 18, 26, 27, 30, 31, 32, 33] [(0, .pointer (some ⟨a2, 0, none⟩)), (1, .int .u64 a4), (5, .int .u64 a5), (6, .int .i64 a1), (7, .int .u8 (a0.getD a1.toNat 0)), (16, .slice (some a6) a0.length a3), (17, .int .i64 (a0.length : Int)), (18, .int .i64 a1), (26, .int .u8 (a0.getD a1.toNat 0)), (27, .bool (false)), (30, .int .u64 a5), (31, .int .u64 (sR .u64 a5 57)), (32, .bool (!(decide ((sR .u64 a5 57) = 0)))), (33, .bool (!(decide ((sR .u64 a5 57) = 0))))] (by kernel_rfl) ?_
         refine EL.done (by kernel_rfl) ?_
         refine EQ.to ?_
         refine EQ.keep [0, 1, 5, 6, 7, 16, 17, 18, 33] [(0, .pointer (some ⟨a2, 0, none⟩)), (1, .int .u64 a4), (5, .int .u64 a5), (6, .int .i64 a1), (7, .int .u8 (a0.getD a1.toNat 0)), (16, .slice (some a6) a0.length a3), (17, .int .i64 (a0.length : Int)), (18, .int .i64 a1), (33, .bool (!(decide ((sR .u64 a5 57) = 0))))] (by kernel_rfl) ?_
         exact fun a ha => ⟨!(decide ((sR .u64 a5 57) = 0)), ha, (hS.re [0] [] rfl (sub_cons 0 rfl (sub_tail (sub_self)))), H⟩
       ·rw [if_neg c2] at H
        refine EL.keep [0, 1, 5, 6, 7, 16, 17, 18, 25] [(0, .pointer (some ⟨a2, 0, none⟩)), (1, .int .u64 a4), (5, .int .u64 a5), (6, .int .i64 a1), (7, .int .u8 (a0.getD a1.toNat 0)), (16, .slice (some a6) a0.length a3), (17, .int .i64 (a0.length : Int)), (18, .int .i64 a1), (25, .bool (decide (a1 = 0)))] (by kernel_rfl) ?_
        refine EL.as' [(0, .pointer (some ⟨a2, 0, none⟩)), (1, .int .u64 a4), (5, .int .u64 a5), (6, .int .i64 a1), (7, .int .u8 (a0.getD a1.toNat 0)), (16, .slice (some a6) a0.length a3), (17, .int .i64 (a0.length : Int)), (18, .int .i64 a1), (25, .bool (false))] (by simp only [dec_f c2, Bool.not_true, Bool.not_false]) ?_
        refine EL.quick 8 [0, 1, 5, 6, 7, 16, 17, 18, 30, 31, 32, 33] [(0, .pointer (some ⟨a2, 0, none⟩)), (1, .int .u64 a4), (5, .int .u64 a5), (6, .int .i64 a1), (7, .int .u8 (a0.getD a1.toNat 0)), (16, .slice (some a6) a0.length a3), (17, .int .i64 (a0.length : Int)), (18, .int .i64 a1), (30, .int .u64 a5), (31, .int .u64 (sR .u64 a5 57)), (32, .bool (!(decide ((sR .u64 a5 57) = 0)))), (33, .bool (!(decide ((sR .u64 a5 57) = 0))))] (by kernel_rfl) ?_
        refine EL.done (by kernel_rfl) ?_
        refine EQ.to ?_
        refine EQ.keep [0, 1, 5, 6, 7, 16, 17, 18, 33] [(0, .pointer (some ⟨a2, 0, none⟩)), (1, .int .u64 a4), (5, .int .u64 a5), (6, .int .i64 a1), (7, .int .u8 (a0.getD a1.toNat 0)), (16, .slice (some a6) a0.length a3), (17, .int .i64 (a0.length : Int)), (18, .int .i64 a1), (33, .bool (!(decide ((sR .u64 a5 57) = 0))))] (by kernel_rfl) ?_
        exact fun a ha => ⟨!(decide ((sR .u64 a5 57) = 0)), ha, (hS.re [0] [] rfl (sub_cons 0 rfl (sub_tail (sub_self)))), H⟩
      ·obtain ⟨b8, ha, hS, H⟩ := hI
       rw [f2] at H
       (try dsimp only at H)
       refine EW.at ?_ a ha
       clear ha a
       refine EW.condP' (o := (.tmp 33)) (x := Cd59.r.r.r.l.r.l.l.r.r.l.l.r.l.r.l) (y := Cd59.r.r.r.l.r.l.l.r.r.l.l.r.l.r.r) (b8) (by kernel_rfl) (by kernel_rfl) (fun c9 => ?_) (fun c9 => ?_)
       ·rw [if_pos c9] at H
        refine EW.seq (x := Cd59.r.r.r.l.r.l.l.r.r.l.l.r.l.r.l.l) (y := Cd59.r.r.r.l.r.l.l.r.r.l.l.r.l.r.l.r) (by kernel_rfl) ?_
        refine EW.region (id := 8) (ops := Cd59.r.r.r.l.r.l.l.r.r.l.l.r.l.r.l.l.ops) (by kernel_rfl) ?_
        refine EL.quick 1 [34] [(34, .pointer (some ⟨a2, 0, none⟩))] (by kernel_rfl) ?_
        have hS : St B _ (Ass.box 138 a2 [.slice (some a6) a0.length a3, .int .i64 a7] :: os) (Ro.sl (Kd.int .u8) (some a6) a3 a0 :: Ro.sl (Kd.int .u8) (some a6) a3 a0 :: rs) := hS.re [0] [] rfl (sub_cons 0 rfl sub_self)
        obtain ⟨d5, d6, c4, e7, H⟩ := b3_out H
        refine EL.of (EO.callD 71 [.pointer (some ⟨a2, 0, none⟩), .int .i64 20] _ 35 (by kernel_rfl) (by kernel_rfl) (by kernel_rfl) (pack_Reader_fail.calls e7 hS) ?_)
        rintro v w ⟨e1, e4, rfl, hS⟩
        refine EL.quick 1 [4] [(4, .int .u64 c4)] (by kernel_rfl) ?_
        refine EL.done (by kernel_rfl) ?_
        refine EQ.code ?_
        refine EW.ret (by kernel_rfl) ?_
        refine EQ.ret ?_
        refine EQ.ret ?_
        refine EQ.ret ?_
        refine EQ.ret ?_
        refine EQ.ret ?_
        refine EQ.ret ?_
        have hS := St.fr hS 1 rfl
        simp only [Option.some.injEq, Prod.mk.injEq] at H
        obtain ⟨rfl, rfl, rfl⟩ := H
        exact EQ.leave (.int .u64 c4) (by kernel_rfl) ⟨_, rfl, e1, e4, rfl, (hS.re [0] [] rfl (sub_cons 0 rfl (sub_tail (sub_tail (sub_self)))))⟩
       ·rw [if_neg c9] at H
        refine EW.skip (by kernel_rfl) ?_
        refine EQ.code ?_
        refine EW.seq (x := Cd59.r.r.r.l.r.l.l.r.r.l.l.r.r.l) (y := Cd59.r.r.r.l.r.l.l.r.r.l.l.r.r.r) (by kernel_rfl) ?_
        refine EW.region (id := 9) (ops := Cd59.r.r.r.l.r.l.l.r.r.l.l.r.r.l.ops) (by kernel_rfl) ?_
        refine EL.quick 7 [0, 1, 5, 6, 7, 16, 17, 18] [(0, .pointer (some ⟨a2, 0, none⟩)), (1, .int .u64 a4), (5, .int .u64 (bO .u64 (sL .u64 a5 7) (IntKind.u64.wrap (bN .u8 (a0.getD a1.toNat 0) 128)))), (6, .int .i64 a1), (7, .int .u8 (a0.getD a1.toNat 0)), (16, .slice (some a6) a0.length a3), (17, .int .i64 (a0.length : Int)), (18, .int .i64 a1)] (by kernel_rfl) ?_
        obtain ⟨a9, f4, H⟩ := lt_out H
        refine EL.keep [0, 1, 5, 6, 7, 16, 17, 18] [(0, .pointer (some ⟨a2, 0, none⟩)), (1, .int .u64 a4), (5, .int .u64 (bO .u64 (sL .u64 a5 7) (IntKind.u64.wrap (bN .u8 (a0.getD a1.toNat 0) 128)))), (6, .int .i64 a1), (7, .int .u8 (a0.getD a1.toNat 0)), (16, .slice (some a6) a0.length a3), (17, .int .i64 (a0.length : Int)), (18, .int .i64 a1)] (by kernel_rfl) ?_
        refine EL.as' [(0, .pointer (some ⟨a2, 0, none⟩)), (1, .int .u64 a4), (5, .int .u64 a9), (6, .int .i64 a1), (7, .int .u8 (a0.getD a1.toNat 0)), (16, .slice (some a6) a0.length a3), (17, .int .i64 (a0.length : Int)), (18, .int .i64 a1)] (by subst f4; rfl) ?_
        refine EL.done (by kernel_rfl) ?_
        refine EQ.code ?_
        refine EW.seq (x := Cd59.r.r.r.l.r.l.l.r.r.l.l.r.r.r.l) (y := Cd59.r.r.r.l.r.l.l.r.r.l.l.r.r.r.r) (by kernel_rfl) ?_
        refine EW.seq (x := Cd59.r.r.r.l.r.l.l.r.r.l.l.r.r.r.l.l) (y := Cd59.r.r.r.l.r.l.l.r.r.l.l.r.r.r.l.r) (by kernel_rfl) ?_
        refine EW.region (id := 10) (ops := Cd59.r.r.r.l.r.l.l.r.r.l.l.r.r.r.l.l.ops) (by kernel_rfl) ?_
        refine EL.quick 3 [0, 1, 5, 6, 16, 17, 18, 44] [(0, .pointer (some ⟨a2, 0, none⟩)), (1, .int .u64 a4), (5, .int .u64 a9), (6, .int .i64 a1), (16, .slice (some a6) a0.length a3), (17, .int .i64 (a0.length : Int)), (18, .int .i64 a1), (44, .bool (!(decide ((bA .u8 (a0.getD a1.toNat 0) 128) = 0))))] (by kernel_rfl) ?_
        refine EL.done (by kernel_rfl) ?_
        refine EQ.code ?_
        refine EW.condQ (b := !(decide ((bA .u8 (a0.getD a1.toNat 0) 128) = 0))) (o := (.tmp 44)) (x := Cd59.r.r.r.l.r.l.l.r.r.l.l.r.r.r.l.r.l) (y := Cd59.r.r.r.l.r.l.l.r.r.l.l.r.r.r.l.r.r) ((bA .u8 (a0.getD a1.toNat 0) 128) = 0) (false) (by kernel_rfl) (by kernel_rfl) ⟨fun h => (by rw [decide_eq_true h] <;> rfl), fun h => (by rw [decide_eq_false h] <;> rfl)⟩ (fun d0 => ?_) (fun d0 => ?_)
        ·rw [if_pos d0] at H
         refine EW.skip (by kernel_rfl) ?_
         refine EQ.code ?_
         refine EW.seq (x := Cd59.r.r.r.l.r.l.l.r.r.l.l.r.r.r.r.l) (y := Cd59.r.r.r.l.r.l.l.r.r.l.l.r.r.r.r.r) (by kernel_rfl) ?_
         refine EW.seq (x := Cd59.r.r.r.l.r.l.l.r.r.l.l.r.r.r.r.l.l) (y := Cd59.r.r.r.l.r.l.l.r.r.l.l.r.r.r.r.l.r) (by kernel_rfl) ?_
         refine EW.region (id := 11) (ops := Cd59.r.r.r.l.r.l.l.r.r.l.l.r.r.r.r.l.l.ops) (by kernel_rfl) ?_
         refine EL.quick 3 [0, 5, 6, 47] [(0, .pointer (some ⟨a2, 0, none⟩)), (5, .int .u64 a9), (6, .int .i64 a1), (47, .bool (decide (a9 > a4)))] (by kernel_rfl) ?_
         refine EL.done (by kernel_rfl) ?_
         refine EQ.code ?_
         refine EW.condP (o := (.tmp 47)) (x := Cd59.r.r.r.l.r.l.l.r.r.l.l.r.r.r.r.l.r.l) (y := Cd59.r.r.r.l.r.l.l.r.r.l.l.r.r.r.r.l.r.r) (a9 > a4) (by kernel_rfl) (by kernel_rfl) (fun d1 => ?_) (fun d1 => ?_)
         ·rw [if_pos d1] at H
          refine EW.seq (x := Cd59.r.r.r.l.r.l.l.r.r.l.l.r.r.r.r.l.r.l.l) (y := Cd59.r.r.r.l.r.l.l.r.r.l.l.r.r.r.r.l.r.l.r) (by kernel_rfl) ?_
          refine EW.region (id := 12) (ops := Cd59.r.r.r.l.r.l.l.r.r.l.l.r.r.r.r.l.r.l.l.ops) (by kernel_rfl) ?_
          refine EL.quick 1 [48] [(48, .pointer (some ⟨a2, 0, none⟩))] (by kernel_rfl) ?_
          have hS : St B _ (Ass.box 138 a2 [.slice (some a6) a0.length a3, .int .i64 a7] :: os) (Ro.sl (Kd.int .u8) (some a6) a3 a0 :: Ro.sl (Kd.int .u8) (some a6) a3 a0 :: rs) := hS.re [0] [] rfl (sub_cons 0 rfl sub_self)
          obtain ⟨d7, d8, c5, e8, H⟩ := b3_out H
          refine EL.of (EO.callD 71 [.pointer (some ⟨a2, 0, none⟩), .int .i64 22] _ 49 (by kernel_rfl) (by kernel_rfl) (by kernel_rfl) (pack_Reader_fail.calls e8 hS) ?_)
          rintro v w ⟨e2, e5, rfl, hS⟩
          refine EL.quick 1 [4] [(4, .int .u64 c5)] (by kernel_rfl) ?_
          refine EL.done (by kernel_rfl) ?_
          refine EQ.code ?_
          refine EW.ret (by kernel_rfl) ?_
          refine EQ.ret ?_
          refine EQ.ret ?_
          refine EQ.ret ?_
          refine EQ.ret ?_
          refine EQ.ret ?_
          refine EQ.ret ?_
          have hS := St.fr hS 1 rfl
          simp only [Option.some.injEq, Prod.mk.injEq] at H
          obtain ⟨rfl, rfl, rfl⟩ := H
          exact EQ.leave (.int .u64 c5) (by kernel_rfl) ⟨_, rfl, e2, e5, rfl, (hS.re [0] [] rfl (sub_cons 0 rfl (sub_tail (sub_tail (sub_self)))))⟩
         ·rw [if_neg d1] at H
          refine EW.skip (by kernel_rfl) ?_
          refine EQ.code ?_
          refine EW.seq (x := Cd59.r.r.r.l.r.l.l.r.r.l.l.r.r.r.r.r.l) (y := Cd59.r.r.r.l.r.l.l.r.r.l.l.r.r.r.r.r.r) (by kernel_rfl) ?_
          refine EW.region (id := 13) (ops := Cd59.r.r.r.l.r.l.l.r.r.l.l.r.r.r.r.r.l.ops) (by kernel_rfl) ?_
          refine EL.quick 4 [5, 6, 50, 53] [(5, .int .u64 a9), (6, .int .i64 a1), (50, .pointer (some ⟨a2, 0, none⟩)), (53, .pointer (some ⟨a2, 0, none⟩))] (by kernel_rfl) ?_
          refine EL.of (EO.Y (YO.loadBox hS 0 rfl 75 0 1 (.slice (some a6) a0.length a3) 54 (by kernel_rfl) (by kernel_rfl) (by kernel_rfl) (by kernel_rfl)) ?_)
          refine EL.quick 2 [5, 50, 54, 56] [(5, .int .u64 a9), (50, .pointer (some ⟨a2, 0, none⟩)), (54, .slice (some a6) a0.length a3), (56, .int .i64 (IntKind.i64.wrap (a1 + 1)))] (by kernel_rfl) ?_
          obtain ⟨f5, H⟩ := ite_in H
          obtain ⟨f6, H⟩ := ite_in H
          obtain ⟨b2, f3, H⟩ := lt_out H
          refine EL.of (EO.sliceRo hS (Kd.int .u8) (some a6) a3 a0 0 rfl (some (.int .i64 (IntKind.i64.wrap (a1 + 1)))) none none ((IntKind.i64.wrap (a1 + 1)).toNat) a0.length a3 b2 (by rw [f3]; exact (slice_lo _ _)) 75 57 (by kernel_rfl) (by kernel_rfl) (by kernel_rfl) (by kernel_rfl) ((Int.toNat_of_nonneg (by omega)).symm) (rfl) ⟨rfl, fun h => by first | rfl | cases h⟩ (by omega) (by omega) (.inl rfl) ?_)
          intro b9 c0 hS
          refine EL.quick 2 [5, 57, 59] [(5, .int .u64 a9), (57, .slice b9 b2.length c0), (59, .pointer (some ⟨a2, 0, none⟩))] (by kernel_rfl) ?_
          refine EL.of (EO.storeBox (os' := Ass.box 138 a2 [.slice b9 b2.length c0, .int .i64 a7] :: os) hS 0 rfl 75 0 (.slice b9 b2.length c0) [.slice b9 b2.length c0, .int .i64 a7] (by kernel_rfl) (by kernel_rfl) (by kernel_rfl) (by kernel_rfl) (by kernel_rfl) (by kernel_rfl) rfl rfl ?_)
          intro w hS
          refine EL.done (by kernel_rfl) ?_
          refine EQ.code ?_
          refine EW.seq (x := Cd59.r.r.r.l.r.l.l.r.r.l.l.r.r.r.r.r.r.l) (y := Cd59.r.r.r.l.r.l.l.r.r.l.l.r.r.r.r.r.r.r) (by kernel_rfl) ?_
          refine EW.region (id := 14) (ops := Cd59.r.r.r.l.r.l.l.r.r.l.l.r.r.r.r.r.r.l.ops) (by kernel_rfl) ?_
          refine EL.quick 2 [4] [(4, .int .u64 a9)] (by kernel_rfl) ?_
          refine EL.done (by kernel_rfl) ?_
          refine EQ.code ?_
          refine EW.ret (by kernel_rfl) ?_
          refine EQ.ret ?_
          refine EQ.ret ?_
          refine EQ.ret ?_
          refine EQ.ret ?_
          refine EQ.ret ?_
          simp only [Option.some.injEq, Prod.mk.injEq] at H
          obtain ⟨rfl, rfl, rfl⟩ := H
          exact EQ.leave (.int .u64 a9) (by kernel_rfl) ⟨_, rfl, b9, c0, rfl, (hS.re [0] [] rfl (sub_cons 0 rfl (sub_tail (sub_self))))⟩
        ·rw [if_neg d0] at H
         refine EW.exit (id := 1) (by kernel_rfl) ?_
         refine EQ.exitCode ?_
         refine EQ.exitHere ?_
         refine EQ.to ?_
         refine EQ.keep [0, 1, 5, 16, 17, 18] [(0, .pointer (some ⟨a2, 0, none⟩)), (1, .int .u64 a4), (5, .int .u64 a9), (16, .slice (some a6) a0.length a3), (17, .int .i64 (a0.length : Int)), (18, .int .i64 a1)] (by kernel_rfl) ?_
         exact fun a ha => ⟨a9, ha, (hS.re [0] [] rfl (sub_cons 0 rfl (sub_tail (sub_self)))), H⟩
     ·obtain ⟨b0, ha, hS, H⟩ := hI
      rw [f1] at H
      (try dsimp only at H)
      refine EW.at ?_ a ha
      clear ha a
      refine EW.region (id := 15) (ops := Cd59.r.r.r.l.r.l.l.r.r.r.ops) (by kernel_rfl) ?_
      refine EL.quick 2 [0, 1, 5, 16, 17, 18] [(0, .pointer (some ⟨a2, 0, none⟩)), (1, .int .u64 a4), (5, .int .u64 b0), (16, .slice a8 a0.length a3), (17, .int .i64 (a0.length : Int)), (18, .int .i64 (IntKind.i64.wrap (a1 + 1)))] (by kernel_rfl) ?_
      refine EL.done (by kernel_rfl) ?_
      refine EQ.to ?_
      refine EQ.keep [0, 1, 5, 16, 17, 18] [(0, .pointer (some ⟨a2, 0, none⟩)), (1, .int .u64 a4), (5, .int .u64 b0), (16, .slice a8 a0.length a3), (17, .int .i64 (a0.length : Int)), (18, .int .i64 (IntKind.i64.wrap (a1 + 1)))] (by kernel_rfl) ?_
      exact fun a ha => ⟨n, Nat.lt_succ_self n, b0, IntKind.i64.wrap (a1 + 1), ha, (hS.re [0] [] rfl (sub_cons 0 rfl (sub_tail (sub_self)))), H⟩
    ·rw [if_neg b5] at H
     refine EW.exit (id := 0) (by kernel_rfl) ?_
     refine EQ.exitCode ?_
     refine EQ.exitTo ?_
     refine EQ.exitHere ?_
     refine EQ.to ?_
     refine EQ.keep [0] [(0, .pointer (some ⟨a2, 0, none⟩))] (by kernel_rfl) ?_
     exact fun a ha => ⟨ha, (hS.re [0] [] rfl (sub_cons 0 rfl (sub_tail (sub_self)))), H⟩
  ·obtain ⟨ha, hS, H⟩ := hI
   rw [f0] at H
   (try dsimp only at H)
   refine EW.at ?_ a ha
   clear ha a
   refine EW.seq (x := Cd59.r.r.r.r.l) (y := Cd59.r.r.r.r.r) (by kernel_rfl) ?_
   refine EW.region (id := 16) (ops := Cd59.r.r.r.r.l.ops) (by kernel_rfl) ?_
   refine EL.quick 1 [62] [(62, .pointer (some ⟨a2, 0, none⟩))] (by kernel_rfl) ?_
   have hS : St B _ (Ass.box 138 a2 [.slice a8 a0.length a3, .int .i64 a7] :: os) (Ro.sl (Kd.int .u8) a8 a3 a0 :: Ro.sl (Kd.int .u8) a8 a3 a0 :: rs) := hS.re [0] [] rfl (sub_cons 0 rfl sub_self)
   obtain ⟨d9, e0, c6, e9, H⟩ := b3_out H
   refine EL.of (EO.callD 71 [.pointer (some ⟨a2, 0, none⟩), .int .i64 21] _ 63 (by kernel_rfl) (by kernel_rfl) (by kernel_rfl) (pack_Reader_fail.calls e9 hS) ?_)
   rintro v w ⟨e3, e6, rfl, hS⟩
   refine EL.quick 1 [4] [(4, .int .u64 c6)] (by kernel_rfl) ?_
   refine EL.done (by kernel_rfl) ?_
   refine EQ.code ?_
   refine EW.ret (by kernel_rfl) ?_
   have hS := St.fr hS 1 rfl
   simp only [Option.some.injEq, Prod.mk.injEq] at H
   obtain ⟨rfl, rfl, rfl⟩ := H
   exact EQ.leave (.int .u64 c6) (by kernel_rfl) ⟨_, rfl, e3, e6, rfl, (hS.re [0] [] rfl (sub_cons 0 rfl (sub_tail (sub_tail (sub_self)))))⟩
 ·rw [if_neg c7] at H
  refine EW.seq (x := Cd59.r.l.r.l.l) (y := Cd59.r.l.r.l.r) (by kernel_rfl) ?_
  refine EW.region (id := 2) (ops := Cd59.r.l.r.l.l.ops) (by kernel_rfl) ?_
  refine EL.quick 1 [4] [(4, .int .u64 0)] (by kernel_rfl) ?_
  refine EL.done (by kernel_rfl) ?_
  refine EQ.code ?_
  refine EW.ret (by kernel_rfl) ?_
  refine EQ.ret ?_
  simp only [Option.some.injEq, Prod.mk.injEq] at H
  obtain ⟨rfl, rfl, rfl⟩ := H
  exact EQ.leave (.int .u64 0) (by kernel_rfl) ⟨_, rfl, a8, a3, rfl, (hS.re [0] [] rfl (sub_cons 0 rfl (sub_self)))⟩

/-! ### (*confidant/pack.Reader).Err: function 60 -/
def pack_Reader_Err.f (K : Nat) (a2 : List Int) (a0 : Int) : Option (List Int × Int × Int) := some (a2, a0, a0)
set_option maxRecDepth 100000 in
theorem pack_Reader_Err.calls {K : Nat} {a2 : List Int} {a0 : Int} {a1 : Nat} {a3 : Option Addr} {a4 : Nat} {a5 : List Int} {a8 : Int} {a9 : Int} {B w : World} {os : List Ass} {rs : List Ro} (H : pack_Reader_Err.f K a2 a0 = some (a5, a8, a9)) (hS : St B w (Ass.box 138 a1 [.slice a3 a2.length a4, .int .i64 a0] :: os) (Ro.sl (Kd.int .u8) a3 a4 a2 :: rs)) :
  Calls Try.prog 60 [.pointer (some ⟨a1, 0, none⟩)].toArray w (fun en w' => ∃ v, en = .returned v ∧ ∃ a6 : Option Addr, ∃ a7 : Nat, v = .int .i64 a9 ∧ St B w' (Ass.box 138 a1 [.slice a6 a5.length a7, .int .i64 a8] :: os) (Ro.sl (Kd.int .u8) a6 a7 a5 :: Ro.sl (Kd.int .u8) a3 a4 a2 :: rs)) := by
 unfold pack_Reader_Err.f at H
 refine calls_of_EW (args := [.pointer (some ⟨a1, 0, none⟩)]) (c := Cd60) 7 Try.func60 (by kernel_rfl) (by kernel_rfl) (by kernel_rfl) ?_
 refine EW.seq (x := Cd60.l) (y := Cd60.r) (by kernel_rfl) ?_
 refine EW.region (id := 0) (ops := Cd60.l.ops) (by kernel_rfl) ?_
 refine EL.quick 1 [0] [(0, .pointer (some ⟨a1, 0, none⟩))] (by kernel_rfl) ?_
 refine EL.done (by kernel_rfl) ?_
 refine EQ.code ?_
 refine EW.seq (x := Cd60.r.l) (y := Cd60.r.r) (by kernel_rfl) ?_
 refine EW.region (id := 1) (ops := Cd60.r.l.ops) (by kernel_rfl) ?_
 refine EL.quick 3 [5] [(5, .pointer (some ⟨a1, 1, none⟩))] (by kernel_rfl) ?_
 refine EL.of (EO.Y (YO.loadBox hS 0 rfl 57 1 1 (.int .i64 a0) 6 (by kernel_rfl) (by kernel_rfl) (by kernel_rfl) (by kernel_rfl)) ?_)
 refine EL.quick 1 [2] [(2, .int .i64 a0)] (by kernel_rfl) ?_
 refine EL.done (by kernel_rfl) ?_
 refine EQ.code ?_
 refine EW.ret (by kernel_rfl) ?_
 simp only [Option.some.injEq, Prod.mk.injEq] at H
 obtain ⟨rfl, rfl, rfl⟩ := H
 exact EQ.leave (.int .i64 a0) (by kernel_rfl) ⟨_, rfl, a3, a4, rfl, (hS.re [0] [] rfl (sub_cons 0 rfl (sub_self)))⟩

/-! ### confidant/audit.Read$1: function 58 -/
def audit_Read_1.f (K : Nat) (a0 : List Int) (a5 : Int) : Option (List Int × Int × Int) := b3 (pack_Reader_Num.f K a0 a5 9223372036854775807) fun (b0 : List Int) (b1 : Int) (a6 : Int) => (some (b0, b1, IntKind.i64.wrap a6))
set_option maxRecDepth 100000 in
theorem audit_Read_1.calls {K : Nat} {a0 : List Int} {a5 : Int} {a4 : Nat} {a1 : Nat} {a2 : Option Addr} {a3 : Nat} {a7 : List Int} {b2 : Int} {b4 : Int} {B w : World} {os : List Ass} {rs : List Ro} (H : audit_Read_1.f K a0 a5 = some (a7, b2, b4)) (hS : St B w (Ass.box 120 a4 [.pointer (some ⟨a1, 0, none⟩)] :: Ass.box 138 a1 [.slice a2 a0.length a3, .int .i64 a5] :: os) (Ro.sl (Kd.int .u8) a2 a3 a0 :: rs)) :
  Calls Try.prog 58 [.pointer (some ⟨a4, 0, none⟩)].toArray w (fun en w' => ∃ v, en = .returned v ∧ ∃ a8 : Option Addr, ∃ a9 : Nat, v = .int .i64 b4 ∧ St B w' (Ass.box 138 a1 [.slice a8 a7.length a9, .int .i64 b2] :: Ass.box 120 a4 [.pointer (some ⟨a1, 0, none⟩)] :: os) (Ro.sl (Kd.int .u8) a8 a9 a7 :: Ro.sl (Kd.int .u8) a2 a3 a0 :: rs)) := by
 unfold audit_Read_1.f at H
 refine calls_of_EW (args := [.pointer (some ⟨a4, 0, none⟩)]) (c := Cd58) 5 Try.func58 (by kernel_rfl) (by kernel_rfl) (by kernel_rfl) ?_
 refine EW.seq (x := Cd58.l) (y := Cd58.r) (by kernel_rfl) ?_
 refine EW.region (id := 0) (ops := Cd58.l.ops) (by kernel_rfl) ?_
 refine EL.quick 1 [0] [(0, .pointer (some ⟨a4, 0, none⟩))] (by kernel_rfl) ?_
 refine EL.done (by kernel_rfl) ?_
 refine EQ.code ?_
 refine EW.seq (x := Cd58.r.l) (y := Cd58.r.r) (by kernel_rfl) ?_
 refine EW.region (id := 1) (ops := Cd58.r.l.ops) (by kernel_rfl) ?_
 refine EL.of (EO.Y (YO.loadBox hS 0 rfl 120 0 1 (.pointer (some ⟨a1, 0, none⟩)) 2 (by kernel_rfl) (by kernel_rfl) (by kernel_rfl) (by kernel_rfl)) ?_)
 have hS : St B _ (Ass.box 138 a1 [.slice a2 a0.length a3, .int .i64 a5] :: Ass.box 120 a4 [.pointer (some ⟨a1, 0, none⟩)] :: os) (Ro.sl (Kd.int .u8) a2 a3 a0 :: Ro.sl (Kd.int .u8) a2 a3 a0 :: rs) := hS.re [1] [] rfl (sub_cons 0 rfl sub_self)
 obtain ⟨b0, b1, a6, b7, H⟩ := b3_out H
 refine EL.of (EO.callD 59 [.pointer (some ⟨a1, 0, none⟩), .int .u64 9223372036854775807] _ 3 (by kernel_rfl) (by kernel_rfl) (by kernel_rfl) (pack_Reader_Num.calls b7 hS) ?_)
 rintro v w ⟨b5, b6, rfl, hS⟩
 refine EL.quick 2 [1] [(1, .int .i64 (IntKind.i64.wrap a6))] (by kernel_rfl) ?_
 refine EL.done (by kernel_rfl) ?_
 refine EQ.code ?_
 refine EW.ret (by kernel_rfl) ?_
 simp only [Option.some.injEq, Prod.mk.injEq] at H
 obtain ⟨rfl, rfl, rfl⟩ := H
 exact EQ.leave (.int .i64 (IntKind.i64.wrap a6)) (by kernel_rfl) ⟨_, rfl, b5, b6, rfl, (hS.re [1, 1] [] rfl (sub_cons 0 rfl (sub_tail (sub_tail (sub_self)))))⟩

/-! ### bytes.Equal: function 61 -/
def bytes_Equal.f (K : Nat) (a0 : List Int) (a1 : List Int) : Option Bool := some ((bStr a0).toList == (bStr a1).toList)
set_option maxRecDepth 100000 in
theorem bytes_Equal.calls {K : Nat} {a0 : List Int} {a1 : List Int} {a4 : Option Addr} {a5 : Nat} {a2 : Option Addr} {a3 : Nat} {a6 : Bool} {B w : World} {os : List Ass} {rs : List Ro} (H : bytes_Equal.f K a0 a1 = some a6) (hS : St B w (os) (Ro.sl (Kd.int .u8) a4 a5 a0 :: Ro.sl (Kd.int .u8) a2 a3 a1 :: rs)) :
  Calls Try.prog 61 [.slice a4 a0.length a5, .slice a2 a1.length a3].toArray w (fun en w' => ∃ v, en = .returned v ∧ v = .bool (a6) ∧ St B w' (os) (Ro.sl (Kd.int .u8) a4 a5 a0 :: Ro.sl (Kd.int .u8) a2 a3 a1 :: rs)) := by
 unfold bytes_Equal.f at H
 refine calls_of_EW (args := [.slice a4 a0.length a5, .slice a2 a1.length a3]) (c := Cd61) 10 Try.func61 (by kernel_rfl) (by kernel_rfl) (by kernel_rfl) ?_
 refine EW.seq (x := Cd61.l) (y := Cd61.r) (by kernel_rfl) ?_
 refine EW.region (id := 0) (ops := Cd61.l.ops) (by kernel_rfl) ?_
 refine EL.quick 1 [0, 1] [(0, .slice a4 a0.length a5), (1, .slice a2 a1.length a3)] (by kernel_rfl) ?_
 refine EL.done (by kernel_rfl) ?_
 refine EQ.code ?_
 refine EW.seq (x := Cd61.r.l) (y := Cd61.r.r) (by kernel_rfl) ?_
 refine EW.region (id := 1) (ops := Cd61.r.l.ops) (by kernel_rfl) ?_
 refine EL.quick 1 [1, 5] [(1, .slice a2 a1.length a3), (5, .slice a4 a0.length a5)] (by kernel_rfl) ?_
 refine EL.of (EO.Y (YO.bstr hS a4 a5 a0 (Rd.ro 0 rfl) 75 9 5 6 (by kernel_rfl) (by kernel_rfl) (by kernel_rfl) (by kernel_rfl) (by kernel_rfl) (by kernel_rfl)) ?_)
 refine EL.quick 1 [6, 7] [(6, .string (bStr a0)), (7, .slice a2 a1.length a3)] (by kernel_rfl) ?_
 refine EL.of (EO.Y (YO.bstr hS a2 a3 a1 (Rd.ro 1 rfl) 75 9 5 8 (by kernel_rfl) (by kernel_rfl) (by kernel_rfl) (by kernel_rfl) (by kernel_rfl) (by kernel_rfl)) ?_)
 refine EL.quick 2 [4] [(4, .bool (((bStr a0).toList == (bStr a1).toList)))] (by kernel_rfl) ?_
 refine EL.done (by kernel_rfl) ?_
 refine EQ.code ?_
 refine EW.ret (by kernel_rfl) ?_
 obtain rfl := Option.some.inj H
 exact EQ.leave (.bool (((bStr a0).toList == (bStr a1).toList))) (by kernel_rfl) ⟨_, rfl, rfl, (hS.re [] [] rfl (sub_self))⟩

/-! ### confidant/audit.Read: function 39 -/
def audit_Read.l0 (K : Nat) (f1 : (List Int) → Int → (List S69) → Option (List S69 × Int)) : Nat → (List Int) → Int → (List S69) → Int → Option (List S69 × Int)
 | 0, _, _, _, _ => none
 | n + 1, b6, e9, a5, a9 => lt (fun (c5 : List Int) (f0 : Int) (g9 : Bool) => (if g9 = true then (b3 (audit_Read_1.f K c5 f0) fun (d2 : List Int) (m8 : Int) (b9 : Int) => (b3 (audit_Read_1.f K d2 m8) fun (d8 : List Int) (m9 : Int) (c0 : Int) => (b3 (audit_Read_1.f K d8 m9) fun (e1 : List Int) (j5 : Int) (c1 : Int) => (b3 (pack_Reader_Num.f K e1 j5 4294967295) fun (e8 : List Int) (j6 : Int) (c4 : Int) => (b3 (audit_Read_1.f K e8 j6) fun (g4 : List Int) (j7 : Int) (c6 : Int) => (b3 (pack_Reader_Num.f K g4 j7 2147483647) fun (i2 : List Int) (i3 : Int) (c9 : Int) => (lt ([(⟨b9, c0, c1, IntKind.i32.wrap (IntKind.u32.wrap c4), c6, IntKind.i32.wrap c9⟩ : S69)] : List S69) fun g3 => (if (a5.length + g3.length) * 48 ≤ 140737488355328 then (lt (a5 ++ g3) fun e7 => (audit_Read.l0 K f1 n i2 i3 e7 (IntKind.u64.wrap (a9 - 1)))) else none)))))))) else (f1 c5 f0 a5))) fun j2 => (if a9 > 0 then (b3 (pack_Reader_Err.f K b6 e9) fun (m6 : List Int) (m7 : Int) (f2 : Int) => (j2 m6 m7 (decide (f2 = 0)))) else (j2 b6 e9 false))
def audit_Read.f (K : Nat) (a1 : List Int) : Option (List S69 × Int) := b2 (pack_New.f K a1) fun (a8 : List Int) (j4 : Int) => (lt (fun (d1 : List Int) (g8 : Int) (b5 : List S69) => (lt (fun (i5 : List Int) (j8 : Int) (i0 : Bool) => (if i0 = true then (some (([] : List S69), 20)) else (some (b5, 0)))) fun j3 => (b3 (pack_Reader_Err.f K d1 g8) fun (e4 : List Int) (f3 : Int) (g5 : Int) => (if g5 = 0 then (b1 (audit_Put.f K b5) fun (g6 : List Int) => (b1 (bytes_Equal.f K g6 a1) fun (i4 : Bool) => (j3 e4 f3 (!(i4))))) else (j3 e4 f3 true))))) fun f1 => (b3 (pack_Reader_Num.f K a8 j4 9223372036854775807) fun (d5 : List Int) (m5 : Int) (i1 : Int) => (audit_Read.l0 K f1 K d5 m5 ([] : List S69) i1)))
set_option maxRecDepth 100000 in
theorem audit_Read.calls {K : Nat} {a1 : List Int} {a2 : Option Addr} {a3 : Nat} {f4 : List S69} {g7 : Int} {B w : World} {os : List Ass} {rs : List Ro} (H : audit_Read.f K a1 = some (f4, g7)) (hS : St B w (os) (Ro.sl (Kd.int .u8) a2 a3 a1 :: rs)) :
  Calls Try.prog 39 [.slice a2 a1.length a3].toArray w (fun en w' => ∃ v, en = .returned v ∧ ∃ n0 : Option Addr, ∃ n1 : Nat, v = .tuple #[.slice n0 f4.length n1, .int .i64 g7] ∧ St B w' (os) (Ro.sl kS69 n0 n1 f4 :: Ro.sl (Kd.int .u8) a2 a3 a1 :: rs)) := by
 unfold audit_Read.f at H
 refine calls_of_EW (args := [.slice a2 a1.length a3]) (c := Cd39) 57 Try.func39 (by kernel_rfl) (by kernel_rfl) (by kernel_rfl) ?_
 refine EW.seq (x := Cd39.l) (y := Cd39.r) (by kernel_rfl) ?_
 refine EW.region (id := 0) (ops := Cd39.l.ops) (by kernel_rfl) ?_
 refine EL.quick 2 [0] [(0, .slice a2 a1.length a3)] (by kernel_rfl) ?_
 refine EL.done (by kernel_rfl) ?_
 refine EQ.code ?_
 refine EW.seq (x := Cd39.r.l) (y := Cd39.r.r) (by kernel_rfl) ?_
 refine EW.region (id := 1) (ops := Cd39.r.l.ops) (by kernel_rfl) ?_
 refine EL.quick 1 [0, 4] [(0, .slice a2 a1.length a3), (4, .slice none ([] : List S69).length 0)] (by kernel_rfl) ?_
 refine EL.done (by kernel_rfl) ?_
 refine EQ.code ?_
 refine EW.seq (x := Cd39.r.r.l) (y := Cd39.r.r.r) (by kernel_rfl) ?_
 refine EW.region (id := 2) (ops := Cd39.r.r.l.ops) (by kernel_rfl) ?_
 refine EL.quick 1 [0, 4, 9] [(0, .slice a2 a1.length a3), (4, .slice none ([] : List S69).length 0), (9, .slice a2 a1.length a3)] (by kernel_rfl) ?_
 have hS : St B _ (os) (Ro.sl (Kd.int .u8) a2 a3 a1 :: Ro.sl (Kd.int .u8) a2 a3 a1 :: rs) := hS.re [] [] rfl (sub_cons 0 rfl sub_self)
 obtain ⟨a8, j4, n7, H⟩ := b2_out H
 refine EL.of (EO.callD 57 [.slice a2 a1.length a3] _ 10 (by kernel_rfl) (by kernel_rfl) (by kernel_rfl) (pack_New.calls n7 hS) ?_)
 rintro v w ⟨a4, b0, b4, rfl, hS⟩
 refine EL.of (EO.alloc hS 120 (.pointer none) [.pointer none] 5 (by kernel_rfl) (by kernel_rfl) (by kernel_rfl) (by kernel_rfl) (by first | rfl | kernel_rfl) ?_)
 intro a0 w hS
 refine EL.of (EO.storeBox (os' := Ass.box 120 a0 [.pointer (some ⟨a4, 0, none⟩)] :: Ass.box 138 a4 [.slice b0 a8.length b4, .int .i64 j4] :: os) hS 0 rfl 120 0 (.pointer (some ⟨a4, 0, none⟩)) [.pointer (some ⟨a4, 0, none⟩)] (by kernel_rfl) (by kernel_rfl) (by kernel_rfl) (by kernel_rfl) (by kernel_rfl) (by kernel_rfl) rfl rfl ?_)
 intro w hS
 refine EL.done (by kernel_rfl) ?_
 refine EQ.code ?_
 refine EW.seq (x := Cd39.r.r.r.l) (y := Cd39.r.r.r.r) (by kernel_rfl) ?_
 refine EW.region (id := 3) (ops := Cd39.r.r.r.l.ops) (by kernel_rfl) ?_
 refine EL.quick 2 [0, 4, 5, 6] [(0, .slice a2 a1.length a3), (4, .slice none ([] : List S69).length 0), (5, .pointer (some ⟨a0, 0, none⟩)), (6, .func (.func 58) #[] #[.pointer (some ⟨a0, 0, none⟩)])] (by kernel_rfl) ?_
 refine EL.done (by kernel_rfl) ?_
 refine EQ.code ?_
 obtain ⟨f1, o9, H⟩ := lt_out H
 refine EW.cut (x := Cd39.r.r.r.r.l) (y := Cd39.r.r.r.r.r) (fun a w => ∃ d1 : List Int, ∃ g8 : Int, ∃ b5 : List S69, ∃ d3 : Option Addr, ∃ d4 : Nat, ∃ b7 : Option Addr, ∃ b8 : Nat, Sat 57 [(0, .slice a2 a1.length a3), (4, .slice b7 b5.length b8), (5, .pointer (some ⟨a0, 0, none⟩))] a ∧ St B w (Ass.box 138 a4 [.slice d3 d1.length d4, .int .i64 g8] :: Ass.box 120 a0 [.pointer (some ⟨a4, 0, none⟩)] :: Ass.own 69 kS69 b7 b8 b5 :: os) (Ro.sl (Kd.int .u8) d3 d4 d1 :: Ro.sl (Kd.int .u8) b0 b4 a8 :: Ro.sl (Kd.int .u8) b0 b4 a8 :: Ro.sl (Kd.int .u8) a2 a3 a1 :: Ro.sl (Kd.int .u8) a2 a3 a1 :: rs) ∧ f1 d1 g8 b5 = some (f4, g7)) (by kernel_rfl) ?_ (fun a w hI => ?_)
 ·refine EW.seq (x := Cd39.r.r.r.r.l.l) (y := Cd39.r.r.r.r.l.r) (by kernel_rfl) ?_
  refine EW.region (id := 4) (ops := Cd39.r.r.r.r.l.l.ops) (by kernel_rfl) ?_
  refine EL.of (EO.Y (YO.loadBox hS 0 rfl 120 0 1 (.pointer (some ⟨a4, 0, none⟩)) 12 (by kernel_rfl) (by kernel_rfl) (by kernel_rfl) (by kernel_rfl)) ?_)
  have hS : St B _ (Ass.box 138 a4 [.slice b0 a8.length b4, .int .i64 j4] :: Ass.box 120 a0 [.pointer (some ⟨a4, 0, none⟩)] :: os) (Ro.sl (Kd.int .u8) b0 b4 a8 :: Ro.sl (Kd.int .u8) b0 b4 a8 :: Ro.sl (Kd.int .u8) a2 a3 a1 :: Ro.sl (Kd.int .u8) a2 a3 a1 :: rs) := hS.re [1] [] rfl (sub_cons 0 rfl sub_self)
  obtain ⟨d5, m5, i1, n8, H⟩ := b3_out H
  refine EL.of (EO.callD 59 [.pointer (some ⟨a4, 0, none⟩), .int .u64 9223372036854775807] _ 13 (by kernel_rfl) (by kernel_rfl) (by kernel_rfl) (pack_Reader_Num.calls n8 hS) ?_)
  rintro v w ⟨d9, e0, rfl, hS⟩
  refine EL.quick 1 [0, 4, 5, 6, 7] [(0, .slice a2 a1.length a3), (4, .slice none ([] : List S69).length 0), (5, .pointer (some ⟨a0, 0, none⟩)), (6, .func (.func 58) #[] #[.pointer (some ⟨a0, 0, none⟩)]), (7, .int .u64 i1)] (by kernel_rfl) ?_
  refine EL.done (by kernel_rfl) ?_
  refine EQ.code ?_
  refine EW.block (x := Cd39.r.r.r.r.l.r.l) (id := 0) (by kernel_rfl) ?_
  have hS := St.nilO hS 69 kS69
  refine EW.loop (x := Cd39.r.r.r.r.l.r.l.l) (fun n a w => ∃ b6 : List Int, ∃ e9 : Int, ∃ a5 : List S69, ∃ a9 : Int, ∃ c2 : Option Addr, ∃ c3 : Nat, ∃ a6 : Option Addr, ∃ a7 : Nat, Sat 57 [(0, .slice a2 a1.length a3), (4, .slice a6 a5.length a7), (5, .pointer (some ⟨a0, 0, none⟩)), (6, .func (.func 58) #[] #[.pointer (some ⟨a0, 0, none⟩)]), (7, .int .u64 a9)] a ∧ St B w (Ass.box 138 a4 [.slice c2 b6.length c3, .int .i64 e9] :: Ass.box 120 a0 [.pointer (some ⟨a4, 0, none⟩)] :: Ass.own 69 kS69 a6 a7 a5 :: os) (Ro.sl (Kd.int .u8) c2 c3 b6 :: Ro.sl (Kd.int .u8) d9 e0 d5 :: Ro.sl (Kd.int .u8) b0 b4 a8 :: Ro.sl (Kd.int .u8) b0 b4 a8 :: Ro.sl (Kd.int .u8) a2 a3 a1 :: Ro.sl (Kd.int .u8) a2 a3 a1 :: rs) ∧ audit_Read.l0 K f1 n b6 e9 a5 a9 = some (f4, g7)) K (by kernel_rfl) ?_ (fun n a w hI => ?_)
  ·refine EQ.keep [0, 4, 5, 6, 7] [(0, .slice a2 a1.length a3), (4, .slice none ([] : List S69).length 0), (5, .pointer (some ⟨a0, 0, none⟩)), (6, .func (.func 58) #[] #[.pointer (some ⟨a0, 0, none⟩)]), (7, .int .u64 i1)] (by kernel_rfl) ?_
   exact fun a ha => ⟨d5, m5, ([] : List S69), i1, d9, e0, none, 0, ha, (hS.re [0, 2, 2] [] rfl (sub_cons 0 rfl (sub_cons 0 rfl (sub_cons 1 rfl (sub_cons 1 rfl (sub_cons 3 rfl (sub_cons 3 rfl (sub_tail (sub_tail (sub_tail (sub_tail (sub_tail (sub_self))))))))))))), H⟩
  ·obtain ⟨b6, e9, a5, a9, c2, c3, a6, a7, ha, hS, H⟩ := hI
   obtain _ | n := n
   ·simp [audit_Read.l0] at H
   rw [audit_Read.l0.eq_2] at H
   refine EW.at ?_ a ha
   clear ha a
   refine EW.seq (x := Cd39.r.r.r.r.l.r.l.l.l) (y := Cd39.r.r.r.r.l.r.l.l.r) (by kernel_rfl) ?_
   obtain ⟨j2, p0, H⟩ := lt_out H
   refine EW.cut (x := Cd39.r.r.r.r.l.r.l.l.l.l) (y := Cd39.r.r.r.r.l.r.l.l.l.r) (fun a w => ∃ c5 : List Int, ∃ f0 : Int, ∃ g9 : Bool, ∃ c7 : Option Addr, ∃ c8 : Nat, Sat 57 [(0, .slice a2 a1.length a3), (4, .slice a6 a5.length a7), (5, .pointer (some ⟨a0, 0, none⟩)), (6, .func (.func 58) #[] #[.pointer (some ⟨a0, 0, none⟩)]), (7, .int .u64 a9), (20, .bool (g9))] a ∧ St B w (Ass.box 138 a4 [.slice c7 c5.length c8, .int .i64 f0] :: Ass.box 120 a0 [.pointer (some ⟨a4, 0, none⟩)] :: Ass.own 69 kS69 a6 a7 a5 :: os) (Ro.sl (Kd.int .u8) c7 c8 c5 :: Ro.sl (Kd.int .u8) c2 c3 b6 :: Ro.sl (Kd.int .u8) c2 c3 b6 :: Ro.sl (Kd.int .u8) d9 e0 d5 :: Ro.sl (Kd.int .u8) b0 b4 a8 :: Ro.sl (Kd.int .u8) b0 b4 a8 :: Ro.sl (Kd.int .u8) a2 a3 a1 :: Ro.sl (Kd.int .u8) a2 a3 a1 :: rs) ∧ j2 c5 f0 g9 = some (f4, g7)) (by kernel_rfl) ?_ (fun a w hI => ?_)
   ·refine EW.region (id := 5) (ops := Cd39.r.r.r.r.l.r.l.l.l.l.ops) (by kernel_rfl) ?_
    refine EL.quick 3 [0, 4, 5, 6, 7, 16] [(0, .slice a2 a1.length a3), (4, .slice a6 a5.length a7), (5, .pointer (some ⟨a0, 0, none⟩)), (6, .func (.func 58) #[] #[.pointer (some ⟨a0, 0, none⟩)]), (7, .int .u64 a9), (16, .bool (decide (a9 > 0)))] (by kernel_rfl) ?_
    by_cases j0 : a9 > 0
    ·rw [if_pos j0] at H
     refine EL.keep [0, 4, 5, 6, 7, 16] [(0, .slice a2 a1.length a3), (4, .slice a6 a5.length a7), (5, .pointer (some ⟨a0, 0, none⟩)), (6, .func (.func 58) #[] #[.pointer (some ⟨a0, 0, none⟩)]), (7, .int .u64 a9), (16, .bool (decide (a9 > 0)))] (by kernel_rfl) ?_
     refine EL.as' [(0, .slice a2 a1.length a3), (4, .slice a6 a5.length a7), (5, .pointer (some ⟨a0, 0, none⟩)), (6, .func (.func 58) #[] #[.pointer (some ⟨a0, 0, none⟩)]), (7, .int .u64 a9), (16, .bool (true))] (by simp only [dec_t j0, Bool.not_true, Bool.not_false]) ?_
     refine EL.of (EO.Y (YO.loadBox hS 1 rfl 120 0 1 (.pointer (some ⟨a4, 0, none⟩)) 17 (by kernel_rfl) (by kernel_rfl) (by kernel_rfl) (by kernel_rfl)) ?_)
     have hS : St B _ (Ass.box 138 a4 [.slice c2 b6.length c3, .int .i64 e9] :: Ass.box 120 a0 [.pointer (some ⟨a4, 0, none⟩)] :: Ass.own 69 kS69 a6 a7 a5 :: os) (Ro.sl (Kd.int .u8) c2 c3 b6 :: Ro.sl (Kd.int .u8) c2 c3 b6 :: Ro.sl (Kd.int .u8) d9 e0 d5 :: Ro.sl (Kd.int .u8) b0 b4 a8 :: Ro.sl (Kd.int .u8) b0 b4 a8 :: Ro.sl (Kd.int .u8) a2 a3 a1 :: Ro.sl (Kd.int .u8) a2 a3 a1 :: rs) := hS.re [0] [] rfl (sub_cons 0 rfl sub_self)
     obtain ⟨m6, m7, f2, n9, H⟩ := b3_out H
     refine EL.of (EO.callD 60 [.pointer (some ⟨a4, 0, none⟩)] _ 18 (by kernel_rfl) (by kernel_rfl) (by kernel_rfl) (pack_Reader_Err.calls n9 hS) ?_)
     rintro v w ⟨n4, n5, rfl, hS⟩
     refine EL.quick 2 [0, 4, 5, 6, 7, 17, 18, 19, 20] [(0, .slice a2 a1.length a3), (4, .slice a6 a5.length a7), (5, .pointer (some ⟨a0, 0, none⟩)), (6, .func (.func 58) #[] #[.pointer (some ⟨a0, 0, none⟩)]), (7, .int .u64 a9), (17, .pointer (some ⟨a4, 0, none⟩)), (18, .int .i64 f2), (19, .bool (decide (f2 = 0))), (20, .bool (decide (f2 = 0)))] (by kernel_rfl) ?_
     refine EL.done (by kernel_rfl) ?_
     refine EQ.to ?_
     refine EQ.keep [0, 4, 5, 6, 7, 20] [(0, .slice a2 a1.length a3), (4, .slice a6 a5.length a7), (5, .pointer (some ⟨a0, 0, none⟩)), (6, .func (.func 58) #[] #[.pointer (some ⟨a0, 0, none⟩)]), (7, .int .u64 a9), (20, .bool (decide (f2 = 0)))] (by kernel_rfl) ?_
     exact fun a ha => ⟨m6, m7, decide (f2 = 0), n4, n5, ha, (hS.re [2, 2, 2] [] rfl (sub_cons 0 rfl (sub_cons 1 rfl (sub_cons 1 rfl (sub_cons 3 rfl (sub_cons 4 rfl (sub_cons 4 rfl (sub_cons 6 rfl (sub_cons 6 rfl (sub_tail (sub_tail (sub_tail (sub_tail (sub_tail (sub_tail (sub_tail (sub_tail (sub_self)))))))))))))))))), H⟩
    ·rw [if_neg j0] at H
     refine EL.keep [0, 4, 5, 6, 7, 16] [(0, .slice a2 a1.length a3), (4, .slice a6 a5.length a7), (5, .pointer (some ⟨a0, 0, none⟩)), (6, .func (.func 58) #[] #[.pointer (some ⟨a0, 0, none⟩)]), (7, .int .u64 a9), (16, .bool (decide (a9 > 0)))] (by kernel_rfl) ?_
     refine EL.as' [(0, .slice a2 a1.length a3), (4, .slice a6 a5.length a7), (5, .pointer (some ⟨a0, 0, none⟩)), (6, .func (.func 58) #[] #[.pointer (some ⟨a0, 0, none⟩)]), (7, .int .u64 a9), (16, .bool (false))] (by simp only [dec_f j0, Bool.not_true, Bool.not_false]) ?_
     refine EL.quick 4 [0, 4, 5, 6, 7, 20] [(0, .slice a2 a1.length a3), (4, .slice a6 a5.length a7), (5, .pointer (some ⟨a0, 0, none⟩)), (6, .func (.func 58) #[] #[.pointer (some ⟨a0, 0, none⟩)]), (7, .int .u64 a9), (20, .bool (false))] (by kernel_rfl) ?_
     refine EL.done (by kernel_rfl) ?_
     refine EQ.to ?_
     refine EQ.keep [0, 4, 5, 6, 7, 20] [(0, .slice a2 a1.length a3), (4, .slice a6 a5.length a7), (5, .pointer (some ⟨a0, 0, none⟩)), (6, .func (.func 58) #[] #[.pointer (some ⟨a0, 0, none⟩)]), (7, .int .u64 a9), (20, .bool (false))] (by kernel_rfl) ?_
     exact fun a ha => ⟨b6, e9, false, c2, c3, ha, (hS.re [2, 2, 2] [] rfl (sub_cons 0 rfl (sub_cons 0 rfl (sub_cons 0 rfl (sub_cons 1 rfl (sub_cons 2 rfl (sub_cons 2 rfl (sub_cons 4 rfl (sub_cons 4 rfl (sub_tail (sub_tail (sub_tail (sub_tail (sub_tail (sub_tail (sub_self)))))))))))))))), H⟩
   ·obtain ⟨c5, f0, g9, c7, c8, ha, hS, H⟩ := hI
    rw [p0] at H
    (try dsimp only at H)
    refine EW.at ?_ a ha
    clear ha a
    refine EW.condP' (o := (.tmp 20)) (x := Cd39.r.r.r.r.l.r.l.l.l.r.l) (y := Cd39.r.r.r.r.l.r.l.l.l.r.r) (g9) (by kernel_rfl) (by kernel_rfl) (fun m3 => ?_) (fun m3 => ?_)
    ·rw [if_pos m3] at H
     refine EW.skip (by kernel_rfl) ?_
     refine EQ.code ?_
     refine EW.seq (x := Cd39.r.r.r.r.l.r.l.l.r.l) (y := Cd39.r.r.r.r.l.r.l.l.r.r) (by kernel_rfl) ?_
     refine EW.block (x := Cd39.r.r.r.r.l.r.l.l.r.l.l) (id := 1) (by kernel_rfl) ?_
     refine EW.seq (x := Cd39.r.r.r.r.l.r.l.l.r.l.l.l) (y := Cd39.r.r.r.r.l.r.l.l.r.l.l.r) (by kernel_rfl) ?_
     refine EW.region (id := 7) (ops := Cd39.r.r.r.r.l.r.l.l.r.l.l.l.ops) (by kernel_rfl) ?_
     refine EL.quick 1 [0, 4, 5, 6, 7, 23] [(0, .slice a2 a1.length a3), (4, .slice a6 a5.length a7), (5, .pointer (some ⟨a0, 0, none⟩)), (6, .func (.func 58) #[] #[.pointer (some ⟨a0, 0, none⟩)]), (7, .int .u64 a9), (23, .func (.func 58) #[] #[.pointer (some ⟨a0, 0, none⟩)])] (by kernel_rfl) ?_
     have hS : St B _ (Ass.box 120 a0 [.pointer (some ⟨a4, 0, none⟩)] :: Ass.box 138 a4 [.slice c7 c5.length c8, .int .i64 f0] :: Ass.own 69 kS69 a6 a7 a5 :: os) (Ro.sl (Kd.int .u8) c7 c8 c5 :: Ro.sl (Kd.int .u8) c7 c8 c5 :: Ro.sl (Kd.int .u8) c2 c3 b6 :: Ro.sl (Kd.int .u8) c2 c3 b6 :: Ro.sl (Kd.int .u8) d9 e0 d5 :: Ro.sl (Kd.int .u8) b0 b4 a8 :: Ro.sl (Kd.int .u8) b0 b4 a8 :: Ro.sl (Kd.int .u8) a2 a3 a1 :: Ro.sl (Kd.int .u8) a2 a3 a1 :: rs) := hS.re [0, 1] [] rfl (sub_cons 0 rfl sub_self)
     obtain ⟨d2, m8, b9, o0, H⟩ := b3_out H
     refine EL.of (EO.callD 58 [.pointer (some ⟨a0, 0, none⟩)] _ 24 (by kernel_rfl) (by kernel_rfl) (by kernel_rfl) (audit_Read_1.calls o0 hS) ?_)
     rintro v w ⟨d6, d7, rfl, hS⟩
     refine EL.quick 1 [0, 4, 5, 6, 7, 24, 25] [(0, .slice a2 a1.length a3), (4, .slice a6 a5.length a7), (5, .pointer (some ⟨a0, 0, none⟩)), (6, .func (.func 58) #[] #[.pointer (some ⟨a0, 0, none⟩)]), (7, .int .u64 a9), (24, .int .i64 b9), (25, .func (.func 58) #[] #[.pointer (some ⟨a0, 0, none⟩)])] (by kernel_rfl) ?_
     have hS : St B _ (Ass.box 120 a0 [.pointer (some ⟨a4, 0, none⟩)] :: Ass.box 138 a4 [.slice d6 d2.length d7, .int .i64 m8] :: Ass.own 69 kS69 a6 a7 a5 :: os) (Ro.sl (Kd.int .u8) d6 d7 d2 :: Ro.sl (Kd.int .u8) d6 d7 d2 :: Ro.sl (Kd.int .u8) c7 c8 c5 :: Ro.sl (Kd.int .u8) c7 c8 c5 :: Ro.sl (Kd.int .u8) c2 c3 b6 :: Ro.sl (Kd.int .u8) c2 c3 b6 :: Ro.sl (Kd.int .u8) d9 e0 d5 :: Ro.sl (Kd.int .u8) b0 b4 a8 :: Ro.sl (Kd.int .u8) b0 b4 a8 :: Ro.sl (Kd.int .u8) a2 a3 a1 :: Ro.sl (Kd.int .u8) a2 a3 a1 :: rs) := hS.re [0, 1] [] rfl (sub_cons 0 rfl sub_self)
     obtain ⟨d8, m9, c0, o1, H⟩ := b3_out H
     refine EL.of (EO.callD 58 [.pointer (some ⟨a0, 0, none⟩)] _ 26 (by kernel_rfl) (by kernel_rfl) (by kernel_rfl) (audit_Read_1.calls o1 hS) ?_)
     rintro v w ⟨e2, e3, rfl, hS⟩
     refine EL.quick 1 [0, 4, 5, 6, 7, 24, 26, 27] [(0, .slice a2 a1.length a3), (4, .slice a6 a5.length a7), (5, .pointer (some ⟨a0, 0, none⟩)), (6, .func (.func 58) #[] #[.pointer (some ⟨a0, 0, none⟩)]), (7, .int .u64 a9), (24, .int .i64 b9), (26, .int .i64 c0), (27, .func (.func 58) #[] #[.pointer (some ⟨a0, 0, none⟩)])] (by kernel_rfl) ?_
     have hS : St B _ (Ass.box 120 a0 [.pointer (some ⟨a4, 0, none⟩)] :: Ass.box 138 a4 [.slice e2 d8.length e3, .int .i64 m9] :: Ass.own 69 kS69 a6 a7 a5 :: os) (Ro.sl (Kd.int .u8) e2 e3 d8 :: Ro.sl (Kd.int .u8) e2 e3 d8 :: Ro.sl (Kd.int .u8) d6 d7 d2 :: Ro.sl (Kd.int .u8) d6 d7 d2 :: Ro.sl (Kd.int .u8) c7 c8 c5 :: Ro.sl (Kd.int .u8) c7 c8 c5 :: Ro.sl (Kd.int .u8) c2 c3 b6 :: Ro.sl (Kd.int .u8) c2 c3 b6 :: Ro.sl (Kd.int .u8) d9 e0 d5 :: Ro.sl (Kd.int .u8) b0 b4 a8 :: Ro.sl (Kd.int .u8) b0 b4 a8 :: Ro.sl (Kd.int .u8) a2 a3 a1 :: Ro.sl (Kd.int .u8) a2 a3 a1 :: rs) := hS.re [0, 1] [] rfl (sub_cons 0 rfl sub_self)
     obtain ⟨e1, j5, c1, o2, H⟩ := b3_out H
     refine EL.of (EO.callD 58 [.pointer (some ⟨a0, 0, none⟩)] _ 28 (by kernel_rfl) (by kernel_rfl) (by kernel_rfl) (audit_Read_1.calls o2 hS) ?_)
     rintro v w ⟨e5, e6, rfl, hS⟩
     refine EL.quick 1 [0, 4, 5, 6, 7, 29] [(0, .slice a2 a1.length a3), (4, .slice a6 a5.length a7), (5, .pointer (some ⟨a0, 0, none⟩)), (6, .func (.func 58) #[] #[.pointer (some ⟨a0, 0, none⟩)]), (7, .int .u64 a9), (29, .agg #[.int .i64 b9, .int .i64 c0, .int .i64 c1, .int .i32 0, .int .i64 0, .int .i32 0])] (by kernel_rfl) ?_
     refine EL.of (EO.alloc hS 69 (.agg #[.int .i64 0, .int .i64 0, .int .i64 0, .int .i32 0, .int .i64 0, .int .i32 0]) [.int .i64 0, .int .i64 0, .int .i64 0, .int .i32 0, .int .i64 0, .int .i32 0] 8 (by kernel_rfl) (by kernel_rfl) (by kernel_rfl) (by kernel_rfl) (by first | rfl | kernel_rfl) ?_)
     intro d0 w hS
     refine EL.of (EO.storeBox (os' := Ass.box 69 d0 [.int .i64 b9, .int .i64 c0, .int .i64 c1, .int .i32 0, .int .i64 0, .int .i32 0] :: Ass.box 138 a4 [.slice e5 e1.length e6, .int .i64 j5] :: Ass.box 120 a0 [.pointer (some ⟨a4, 0, none⟩)] :: Ass.own 69 kS69 a6 a7 a5 :: os) hS 0 rfl 69 0 (.agg #[.int .i64 b9, .int .i64 c0, .int .i64 c1, .int .i32 0, .int .i64 0, .int .i32 0]) [.int .i64 b9, .int .i64 c0, .int .i64 c1, .int .i32 0, .int .i64 0, .int .i32 0] (by kernel_rfl) (by kernel_rfl) (by kernel_rfl) (by kernel_rfl) (by kernel_rfl) (by kernel_rfl) rfl rfl ?_)
     intro w hS
     refine EL.done (by kernel_rfl) ?_
     refine EQ.code ?_
     refine EW.seq (x := Cd39.r.r.r.r.l.r.l.l.r.l.l.r.l) (y := Cd39.r.r.r.r.l.r.l.l.r.l.l.r.r) (by kernel_rfl) ?_
     refine EW.region (id := 8) (ops := Cd39.r.r.r.r.l.r.l.l.r.l.l.r.l.ops) (by kernel_rfl) ?_
     refine EL.of (EO.Y (YO.loadBox hS 2 rfl 120 0 1 (.pointer (some ⟨a4, 0, none⟩)) 30 (by kernel_rfl) (by kernel_rfl) (by kernel_rfl) (by kernel_rfl)) ?_)
     have hS : St B _ (Ass.box 138 a4 [.slice e5 e1.length e6, .int .i64 j5] :: Ass.box 69 d0 [.int .i64 b9, .int .i64 c0, .int .i64 c1, .int .i32 0, .int .i64 0, .int .i32 0] :: Ass.box 120 a0 [.pointer (some ⟨a4, 0, none⟩)] :: Ass.own 69 kS69 a6 a7 a5 :: os) (Ro.sl (Kd.int .u8) e5 e6 e1 :: Ro.sl (Kd.int .u8) e5 e6 e1 :: Ro.sl (Kd.int .u8) e2 e3 d8 :: Ro.sl (Kd.int .u8) e2 e3 d8 :: Ro.sl (Kd.int .u8) d6 d7 d2 :: Ro.sl (Kd.int .u8) d6 d7 d2 :: Ro.sl (Kd.int .u8) c7 c8 c5 :: Ro.sl (Kd.int .u8) c7 c8 c5 :: Ro.sl (Kd.int .u8) c2 c3 b6 :: Ro.sl (Kd.int .u8) c2 c3 b6 :: Ro.sl (Kd.int .u8) d9 e0 d5 :: Ro.sl (Kd.int .u8) b0 b4 a8 :: Ro.sl (Kd.int .u8) b0 b4 a8 :: Ro.sl (Kd.int .u8) a2 a3 a1 :: Ro.sl (Kd.int .u8) a2 a3 a1 :: rs) := hS.re [1] [] rfl (sub_cons 0 rfl sub_self)
     obtain ⟨e8, j6, c4, o3, H⟩ := b3_out H
     refine EL.of (EO.callD 59 [.pointer (some ⟨a4, 0, none⟩), .int .u64 4294967295] _ 31 (by kernel_rfl) (by kernel_rfl) (by kernel_rfl) (pack_Reader_Num.calls o3 hS) ?_)
     rintro v w ⟨f5, f9, rfl, hS⟩
     refine EL.quick 3 [0, 4, 5, 6, 7, 8, 33, 34] [(0, .slice a2 a1.length a3), (4, .slice a6 a5.length a7), (5, .pointer (some ⟨a0, 0, none⟩)), (6, .func (.func 58) #[] #[.pointer (some ⟨a0, 0, none⟩)]), (7, .int .u64 a9), (8, .pointer (some ⟨d0, 0, none⟩)), (33, .int .i32 (IntKind.i32.wrap (IntKind.u32.wrap c4))), (34, .pointer (some ⟨d0, 3, none⟩))] (by kernel_rfl) ?_
     refine EL.of (EO.storeBox (os' := Ass.box 138 a4 [.slice f5 e8.length f9, .int .i64 j6] :: Ass.box 69 d0 [.int .i64 b9, .int .i64 c0, .int .i64 c1, .int .i32 (IntKind.i32.wrap (IntKind.u32.wrap c4)), .int .i64 0, .int .i32 0] :: Ass.box 120 a0 [.pointer (some ⟨a4, 0, none⟩)] :: Ass.own 69 kS69 a6 a7 a5 :: os) hS 1 rfl 21 3 (.int .i32 (IntKind.i32.wrap (IntKind.u32.wrap c4))) [.int .i64 b9, .int .i64 c0, .int .i64 c1, .int .i32 (IntKind.i32.wrap (IntKind.u32.wrap c4)), .int .i64 0, .int .i32 0] (by kernel_rfl) (by kernel_rfl) (by kernel_rfl) (by kernel_rfl) (by kernel_rfl) (by kernel_rfl) rfl rfl ?_)
     intro w hS
     refine EL.done (by kernel_rfl) ?_
     refine EQ.code ?_
     refine EW.seq (x := Cd39.r.r.r.r.l.r.l.l.r.l.l.r.r.l) (y := Cd39.r.r.r.r.l.r.l.l.r.l.l.r.r.r) (by kernel_rfl) ?_
     refine EW.region (id := 9) (ops := Cd39.r.r.r.r.l.r.l.l.r.l.l.r.r.l.ops) (by kernel_rfl) ?_
     refine EL.quick 1 [0, 4, 5, 6, 7, 8, 35] [(0, .slice a2 a1.length a3), (4, .slice a6 a5.length a7), (5, .pointer (some ⟨a0, 0, none⟩)), (6, .func (.func 58) #[] #[.pointer (some ⟨a0, 0, none⟩)]), (7, .int .u64 a9), (8, .pointer (some ⟨d0, 0, none⟩)), (35, .func (.func 58) #[] #[.pointer (some ⟨a0, 0, none⟩)])] (by kernel_rfl) ?_
     have hS : St B _ (Ass.box 120 a0 [.pointer (some ⟨a4, 0, none⟩)] :: Ass.box 138 a4 [.slice f5 e8.length f9, .int .i64 j6] :: Ass.box 69 d0 [.int .i64 b9, .int .i64 c0, .int .i64 c1, .int .i32 (IntKind.i32.wrap (IntKind.u32.wrap c4)), .int .i64 0, .int .i32 0] :: Ass.own 69 kS69 a6 a7 a5 :: os) (Ro.sl (Kd.int .u8) f5 f9 e8 :: Ro.sl (Kd.int .u8) f5 f9 e8 :: Ro.sl (Kd.int .u8) e5 e6 e1 :: Ro.sl (Kd.int .u8) e5 e6 e1 :: Ro.sl (Kd.int .u8) e2 e3 d8 :: Ro.sl (Kd.int .u8) e2 e3 d8 :: Ro.sl (Kd.int .u8) d6 d7 d2 :: Ro.sl (Kd.int .u8) d6 d7 d2 :: Ro.sl (Kd.int .u8) c7 c8 c5 :: Ro.sl (Kd.int .u8) c7 c8 c5 :: Ro.sl (Kd.int .u8) c2 c3 b6 :: Ro.sl (Kd.int .u8) c2 c3 b6 :: Ro.sl (Kd.int .u8) d9 e0 d5 :: Ro.sl (Kd.int .u8) b0 b4 a8 :: Ro.sl (Kd.int .u8) b0 b4 a8 :: Ro.sl (Kd.int .u8) a2 a3 a1 :: Ro.sl (Kd.int .u8) a2 a3 a1 :: rs) := hS.re [0, 2] [] rfl (sub_cons 0 rfl sub_self)
     obtain ⟨g4, j7, c6, o4, H⟩ := b3_out H
     refine EL.of (EO.callD 58 [.pointer (some ⟨a0, 0, none⟩)] _ 36 (by kernel_rfl) (by kernel_rfl) (by kernel_rfl) (audit_Read_1.calls o4 hS) ?_)
     rintro v w ⟨i6, i8, rfl, hS⟩
     refine EL.quick 1 [0, 4, 5, 6, 7, 8, 36, 37] [(0, .slice a2 a1.length a3), (4, .slice a6 a5.length a7), (5, .pointer (some ⟨a0, 0, none⟩)), (6, .func (.func 58) #[] #[.pointer (some ⟨a0, 0, none⟩)]), (7, .int .u64 a9), (8, .pointer (some ⟨d0, 0, none⟩)), (36, .int .i64 c6), (37, .pointer (some ⟨d0, 4, none⟩))] (by kernel_rfl) ?_
     refine EL.of (EO.storeBox (os' := Ass.box 138 a4 [.slice i6 g4.length i8, .int .i64 j7] :: Ass.box 120 a0 [.pointer (some ⟨a4, 0, none⟩)] :: Ass.box 69 d0 [.int .i64 b9, .int .i64 c0, .int .i64 c1, .int .i32 (IntKind.i32.wrap (IntKind.u32.wrap c4)), .int .i64 c6, .int .i32 0] :: Ass.own 69 kS69 a6 a7 a5 :: os) hS 2 rfl 3 4 (.int .i64 c6) [.int .i64 b9, .int .i64 c0, .int .i64 c1, .int .i32 (IntKind.i32.wrap (IntKind.u32.wrap c4)), .int .i64 c6, .int .i32 0] (by kernel_rfl) (by kernel_rfl) (by kernel_rfl) (by kernel_rfl) (by kernel_rfl) (by kernel_rfl) rfl rfl ?_)
     intro w hS
     refine EL.done (by kernel_rfl) ?_
     refine EQ.code ?_
     refine EW.seq (x := Cd39.r.r.r.r.l.r.l.l.r.l.l.r.r.r.l) (y := Cd39.r.r.r.r.l.r.l.l.r.l.l.r.r.r.r) (by kernel_rfl) ?_
     refine EW.region (id := 10) (ops := Cd39.r.r.r.r.l.r.l.l.r.l.l.r.r.r.l.ops) (by kernel_rfl) ?_
     refine EL.of (EO.Y (YO.loadBox hS 1 rfl 120 0 1 (.pointer (some ⟨a4, 0, none⟩)) 38 (by kernel_rfl) (by kernel_rfl) (by kernel_rfl) (by kernel_rfl)) ?_)
     have hS : St B _ (Ass.box 138 a4 [.slice i6 g4.length i8, .int .i64 j7] :: Ass.box 120 a0 [.pointer (some ⟨a4, 0, none⟩)] :: Ass.box 69 d0 [.int .i64 b9, .int .i64 c0, .int .i64 c1, .int .i32 (IntKind.i32.wrap (IntKind.u32.wrap c4)), .int .i64 c6, .int .i32 0] :: Ass.own 69 kS69 a6 a7 a5 :: os) (Ro.sl (Kd.int .u8) i6 i8 g4 :: Ro.sl (Kd.int .u8) i6 i8 g4 :: Ro.sl (Kd.int .u8) f5 f9 e8 :: Ro.sl (Kd.int .u8) f5 f9 e8 :: Ro.sl (Kd.int .u8) e5 e6 e1 :: Ro.sl (Kd.int .u8) e5 e6 e1 :: Ro.sl (Kd.int .u8) e2 e3 d8 :: Ro.sl (Kd.int .u8) e2 e3 d8 :: Ro.sl (Kd.int .u8) d6 d7 d2 :: Ro.sl (Kd.int .u8) d6 d7 d2 :: Ro.sl (Kd.int .u8) c7 c8 c5 :: Ro.sl (Kd.int .u8) c7 c8 c5 :: Ro.sl (Kd.int .u8) c2 c3 b6 :: Ro.sl (Kd.int .u8) c2 c3 b6 :: Ro.sl (Kd.int .u8) d9 e0 d5 :: Ro.sl (Kd.int .u8) b0 b4 a8 :: Ro.sl (Kd.int .u8) b0 b4 a8 :: Ro.sl (Kd.int .u8) a2 a3 a1 :: Ro.sl (Kd.int .u8) a2 a3 a1 :: rs) := hS.re [0] [] rfl (sub_cons 0 rfl sub_self)
     obtain ⟨i2, i3, c9, o5, H⟩ := b3_out H
     refine EL.of (EO.callD 59 [.pointer (some ⟨a4, 0, none⟩), .int .u64 2147483647] _ 39 (by kernel_rfl) (by kernel_rfl) (by kernel_rfl) (pack_Reader_Num.calls o5 hS) ?_)
     rintro v w ⟨j9, m1, rfl, hS⟩
     refine EL.quick 2 [0, 4, 5, 6, 7, 8, 40, 41] [(0, .slice a2 a1.length a3), (4, .slice a6 a5.length a7), (5, .pointer (some ⟨a0, 0, none⟩)), (6, .func (.func 58) #[] #[.pointer (some ⟨a0, 0, none⟩)]), (7, .int .u64 a9), (8, .pointer (some ⟨d0, 0, none⟩)), (40, .int .i32 (IntKind.i32.wrap c9)), (41, .pointer (some ⟨d0, 5, none⟩))] (by kernel_rfl) ?_
     refine EL.of (EO.storeBox (os' := Ass.box 138 a4 [.slice j9 i2.length m1, .int .i64 i3] :: Ass.box 120 a0 [.pointer (some ⟨a4, 0, none⟩)] :: Ass.box 69 d0 [.int .i64 b9, .int .i64 c0, .int .i64 c1, .int .i32 (IntKind.i32.wrap (IntKind.u32.wrap c4)), .int .i64 c6, .int .i32 (IntKind.i32.wrap c9)] :: Ass.own 69 kS69 a6 a7 a5 :: os) hS 2 rfl 21 5 (.int .i32 (IntKind.i32.wrap c9)) [.int .i64 b9, .int .i64 c0, .int .i64 c1, .int .i32 (IntKind.i32.wrap (IntKind.u32.wrap c4)), .int .i64 c6, .int .i32 (IntKind.i32.wrap c9)] (by kernel_rfl) (by kernel_rfl) (by kernel_rfl) (by kernel_rfl) (by kernel_rfl) (by kernel_rfl) rfl rfl ?_)
     intro w hS
     refine EL.done (by kernel_rfl) ?_
     refine EQ.code ?_
     refine EW.region (id := 11) (ops := Cd39.r.r.r.r.l.r.l.l.r.l.l.r.r.r.r.ops) (by kernel_rfl) ?_
     refine EL.quick 1 [0, 5, 6, 7, 8, 42] [(0, .slice a2 a1.length a3), (5, .pointer (some ⟨a0, 0, none⟩)), (6, .func (.func 58) #[] #[.pointer (some ⟨a0, 0, none⟩)]), (7, .int .u64 a9), (8, .pointer (some ⟨d0, 0, none⟩)), (42, .slice a6 a5.length a7)] (by kernel_rfl) ?_
     refine EL.of (EO.Y (YO.loadBox hS 2 rfl 69 0 6 (.agg #[.int .i64 b9, .int .i64 c0, .int .i64 c1, .int .i32 (IntKind.i32.wrap (IntKind.u32.wrap c4)), .int .i64 c6, .int .i32 (IntKind.i32.wrap c9)]) 43 (by kernel_rfl) (by kernel_rfl) (by kernel_rfl) (by kernel_rfl)) ?_)
     obtain ⟨g3, n3, H⟩ := lt_out H
     refine EL.of (EO.lit hS kS69 69 64 1 #[(0, .agg #[.int .i64 b9, .int .i64 c0, .int .i64 c1, .int .i32 (IntKind.i32.wrap (IntKind.u32.wrap c4)), .int .i64 c6, .int .i32 (IntKind.i32.wrap c9)])] [.int .i64 b9, .int .i64 c0, .int .i64 c1, .int .i32 (IntKind.i32.wrap (IntKind.u32.wrap c4)), .int .i64 c6, .int .i32 (IntKind.i32.wrap c9)] g3 44 (by kernel_rfl) (by kernel_rfl) (by kernel_rfl) (fun _ => (by kernel_rfl)) (by rw [n3]; rfl) (by kernel_rfl) (fun w G hr => (by rw [n3]; exact ⟨[.int .i64 b9, .int .i64 c0, .int .i64 c1, .int .i32 (IntKind.i32.wrap (IntKind.u32.wrap c4)), .int .i64 c6, .int .i32 (IntKind.i32.wrap c9)], [], rfl, ⟨[.int .i64 b9], [.int .i64 c0, .int .i64 c1, .int .i32 (IntKind.i32.wrap (IntKind.u32.wrap c4)), .int .i64 c6, .int .i32 (IntKind.i32.wrap c9)], rfl, rfl, ⟨[.int .i64 c0], [.int .i64 c1, .int .i32 (IntKind.i32.wrap (IntKind.u32.wrap c4)), .int .i64 c6, .int .i32 (IntKind.i32.wrap c9)], rfl, rfl, ⟨[.int .i64 c1], [.int .i32 (IntKind.i32.wrap (IntKind.u32.wrap c4)), .int .i64 c6, .int .i32 (IntKind.i32.wrap c9)], rfl, rfl, ⟨[.int .i32 (IntKind.i32.wrap (IntKind.u32.wrap c4))], [.int .i64 c6, .int .i32 (IntKind.i32.wrap c9)], rfl, rfl, ⟨[.int .i64 c6], [.int .i32 (IntKind.i32.wrap c9)], rfl, rfl, ⟨[.int .i32 (IntKind.i32.wrap c9)], [], rfl, rfl, rfl⟩⟩⟩⟩⟩⟩, rfl⟩)) ?_)
     intro n2 w hS
     obtain ⟨n6, H⟩ := ite_in H
     obtain ⟨e7, p2, H⟩ := lt_out H
     refine EL.of (EO.append hS 64 64 69 48 4 kS69 a6 a7 a5 rfl (some ⟨n2, 0, none⟩) 1 g3 (Rd.own 0 69 rfl) e7 p2 (fun f6 g0 => Ass.own 69 kS69 (some ⟨n2, 0, none⟩) 1 g3 :: Ass.box 138 a4 [.slice j9 i2.length m1, .int .i64 i3] :: Ass.box 120 a0 [.pointer (some ⟨a4, 0, none⟩)] :: Ass.box 69 d0 [.int .i64 b9, .int .i64 c0, .int .i64 c1, .int .i32 (IntKind.i32.wrap (IntKind.u32.wrap c4)), .int .i64 c6, .int .i32 (IntKind.i32.wrap c9)] :: Ass.own 69 kS69 f6 g0 e7 :: os) 45 (by kernel_rfl) (by kernel_rfl) (by kernel_rfl) (by kernel_rfl) n6 (fun _ _ => rfl) ?_)
     intro f6 g0 w hS
     refine EL.quick 1 [0, 4, 5, 6, 7] [(0, .slice a2 a1.length a3), (4, .slice f6 e7.length g0), (5, .pointer (some ⟨a0, 0, none⟩)), (6, .func (.func 58) #[] #[.pointer (some ⟨a0, 0, none⟩)]), (7, .int .u64 a9)] (by kernel_rfl) ?_
     refine EL.done (by kernel_rfl) ?_
     refine EQ.pop ?_
     refine EQ.code ?_
     refine EW.region (id := 6) (ops := Cd39.r.r.r.r.l.r.l.l.r.r.ops) (by kernel_rfl) ?_
     refine EL.quick 3 [0, 4, 5, 6, 7] [(0, .slice a2 a1.length a3), (4, .slice f6 e7.length g0), (5, .pointer (some ⟨a0, 0, none⟩)), (6, .func (.func 58) #[] #[.pointer (some ⟨a0, 0, none⟩)]), (7, .int .u64 (IntKind.u64.wrap (a9 - 1)))] (by kernel_rfl) ?_
     refine EL.done (by kernel_rfl) ?_
     refine EQ.to ?_
     refine EQ.keep [0, 4, 5, 6, 7] [(0, .slice a2 a1.length a3), (4, .slice f6 e7.length g0), (5, .pointer (some ⟨a0, 0, none⟩)), (6, .func (.func 58) #[] #[.pointer (some ⟨a0, 0, none⟩)]), (7, .int .u64 (IntKind.u64.wrap (a9 - 1)))] (by kernel_rfl) ?_
     exact fun a ha => ⟨n, Nat.lt_succ_self n, i2, i3, e7, IntKind.u64.wrap (a9 - 1), j9, m1, f6, g0, ha, (hS.re [4, 3, 3] [3, 3] rfl (sub_cons 0 rfl (sub_cons 15 rfl (sub_cons 16 rfl (sub_cons 16 rfl (sub_cons 18 rfl (sub_cons 18 rfl (sub_tail (sub_tail (sub_tail (sub_tail (sub_tail (sub_tail (sub_tail (sub_tail (sub_tail (sub_tail (sub_tail (sub_tail (sub_tail (sub_tail (sub_tail (sub_tail (sub_tail (sub_tail (sub_tail (sub_tail (sub_self)))))))))))))))))))))))))))), H⟩
    ·rw [if_neg m3] at H
     refine EW.exit (id := 0) (by kernel_rfl) ?_
     refine EQ.exitCode ?_
     refine EQ.exitTo ?_
     refine EQ.exitHere ?_
     refine EQ.to ?_
     refine EQ.keep [0, 4, 5] [(0, .slice a2 a1.length a3), (4, .slice a6 a5.length a7), (5, .pointer (some ⟨a0, 0, none⟩))] (by kernel_rfl) ?_
     exact fun a ha => ⟨c5, f0, a5, c7, c8, a6, a7, ha, (hS.re [2, 2, 2] [] rfl (sub_cons 0 rfl (sub_cons 4 rfl (sub_cons 4 rfl (sub_cons 6 rfl (sub_cons 6 rfl (sub_tail (sub_tail (sub_tail (sub_tail (sub_tail (sub_tail (sub_tail (sub_tail (sub_self))))))))))))))), H⟩
 ·obtain ⟨d1, g8, b5, d3, d4, b7, b8, ha, hS, H⟩ := hI
  rw [o9] at H
  (try dsimp only at H)
  refine EW.at ?_ a ha
  clear ha a
  refine EW.seq (x := Cd39.r.r.r.r.r.l) (y := Cd39.r.r.r.r.r.r) (by kernel_rfl) ?_
  obtain ⟨j3, p1, H⟩ := lt_out H
  refine EW.cut (x := Cd39.r.r.r.r.r.l.l) (y := Cd39.r.r.r.r.r.l.r) (fun a w => ∃ i5 : List Int, ∃ j8 : Int, ∃ i0 : Bool, ∃ m0 : Option Addr, ∃ m2 : Nat, ∃ f7 : Option Addr, ∃ g1 : Nat, Sat 57 [(4, .slice f7 b5.length g1), (55, .bool (i0))] a ∧ St B w (Ass.box 138 a4 [.slice m0 i5.length m2, .int .i64 j8] :: Ass.box 120 a0 [.pointer (some ⟨a4, 0, none⟩)] :: os) (Ro.sl (Kd.int .u8) m0 m2 i5 :: Ro.sl kS69 f7 g1 b5 :: Ro.sl (Kd.int .u8) a2 a3 a1 :: Ro.sl (Kd.int .u8) d3 d4 d1 :: Ro.sl (Kd.int .u8) d3 d4 d1 :: Ro.sl (Kd.int .u8) b0 b4 a8 :: Ro.sl (Kd.int .u8) b0 b4 a8 :: Ro.sl (Kd.int .u8) a2 a3 a1 :: Ro.sl (Kd.int .u8) a2 a3 a1 :: rs) ∧ j3 i5 j8 i0 = some (f4, g7)) (by kernel_rfl) ?_ (fun a w hI => ?_)
  ·refine EW.region (id := 12) (ops := Cd39.r.r.r.r.r.l.l.ops) (by kernel_rfl) ?_
   refine EL.of (EO.Y (YO.loadBox hS 1 rfl 120 0 1 (.pointer (some ⟨a4, 0, none⟩)) 46 (by kernel_rfl) (by kernel_rfl) (by kernel_rfl) (by kernel_rfl)) ?_)
   have hS : St B _ (Ass.box 138 a4 [.slice d3 d1.length d4, .int .i64 g8] :: Ass.box 120 a0 [.pointer (some ⟨a4, 0, none⟩)] :: Ass.own 69 kS69 b7 b8 b5 :: os) (Ro.sl (Kd.int .u8) d3 d4 d1 :: Ro.sl (Kd.int .u8) d3 d4 d1 :: Ro.sl (Kd.int .u8) b0 b4 a8 :: Ro.sl (Kd.int .u8) b0 b4 a8 :: Ro.sl (Kd.int .u8) a2 a3 a1 :: Ro.sl (Kd.int .u8) a2 a3 a1 :: rs) := hS.re [0] [] rfl (sub_cons 0 rfl sub_self)
   obtain ⟨e4, f3, g5, o6, H⟩ := b3_out H
   refine EL.of (EO.callD 60 [.pointer (some ⟨a4, 0, none⟩)] _ 47 (by kernel_rfl) (by kernel_rfl) (by kernel_rfl) (pack_Reader_Err.calls o6 hS) ?_)
   rintro v w ⟨f8, g2, rfl, hS⟩
   refine EL.quick 2 [0, 4, 49] [(0, .slice a2 a1.length a3), (4, .slice b7 b5.length b8), (49, .bool (!(decide (g5 = 0))))] (by kernel_rfl) ?_
   by_cases j1 : g5 = 0
   ·rw [if_pos j1] at H
    refine EL.keep [0, 4, 49] [(0, .slice a2 a1.length a3), (4, .slice b7 b5.length b8), (49, .bool (!(decide (g5 = 0))))] (by kernel_rfl) ?_
    refine EL.as' [(0, .slice a2 a1.length a3), (4, .slice b7 b5.length b8), (49, .bool (false))] (by simp only [dec_t j1, Bool.not_true, Bool.not_false]) ?_
    refine EL.quick 1 [0, 4, 49, 50] [(0, .slice a2 a1.length a3), (4, .slice b7 b5.length b8), (49, .bool (false)), (50, .slice b7 b5.length b8)] (by kernel_rfl) ?_
    have hS := St.fr hS 2 rfl
    have hS : St B _ (Ass.box 138 a4 [.slice f8 e4.length g2, .int .i64 f3] :: Ass.box 120 a0 [.pointer (some ⟨a4, 0, none⟩)] :: os) (Ro.sl kS69 b7 b8 b5 :: Ro.sl kS69 b7 b8 b5 :: Ro.sl (Kd.int .u8) f8 g2 e4 :: Ro.sl (Kd.int .u8) d3 d4 d1 :: Ro.sl (Kd.int .u8) d3 d4 d1 :: Ro.sl (Kd.int .u8) b0 b4 a8 :: Ro.sl (Kd.int .u8) b0 b4 a8 :: Ro.sl (Kd.int .u8) a2 a3 a1 :: Ro.sl (Kd.int .u8) a2 a3 a1 :: rs) := hS.re [] [] rfl (sub_cons 0 rfl sub_self)
    obtain ⟨g6, o7, H⟩ := b1_out H
    refine EL.of (EO.callD 33 [.slice b7 b5.length b8] _ 51 (by kernel_rfl) (by kernel_rfl) (by kernel_rfl) (audit_Put.calls o7 hS) ?_)
    rintro v w ⟨i7, i9, rfl, hS⟩
    refine EL.quick 1 [4, 49, 51, 52] [(4, .slice b7 b5.length b8), (49, .bool (false)), (51, .slice i7 g6.length i9), (52, .slice a2 a1.length a3)] (by kernel_rfl) ?_
    have hS := St.fr hS 0 rfl
    have hS : St B _ (Ass.box 138 a4 [.slice f8 e4.length g2, .int .i64 f3] :: Ass.box 120 a0 [.pointer (some ⟨a4, 0, none⟩)] :: os) (Ro.sl (Kd.int .u8) i7 i9 g6 :: Ro.sl (Kd.int .u8) a2 a3 a1 :: Ro.sl (Kd.int .u8) i7 i9 g6 :: Ro.sl kS69 b7 b8 b5 :: Ro.sl kS69 b7 b8 b5 :: Ro.sl (Kd.int .u8) f8 g2 e4 :: Ro.sl (Kd.int .u8) d3 d4 d1 :: Ro.sl (Kd.int .u8) d3 d4 d1 :: Ro.sl (Kd.int .u8) b0 b4 a8 :: Ro.sl (Kd.int .u8) b0 b4 a8 :: Ro.sl (Kd.int .u8) a2 a3 a1 :: Ro.sl (Kd.int .u8) a2 a3 a1 :: rs) := hS.re [] [] rfl (sub_cons 0 rfl (sub_cons 8 rfl sub_self))
    obtain ⟨i4, o8, H⟩ := b1_out H
    refine EL.of (EO.callD 61 [.slice i7 g6.length i9, .slice a2 a1.length a3] _ 53 (by kernel_rfl) (by kernel_rfl) (by kernel_rfl) (bytes_Equal.calls o8 hS) ?_)
    rintro v w ⟨rfl, hS⟩
    refine EL.quick 2 [4, 55] [(4, .slice b7 b5.length b8), (55, .bool (!(i4)))] (by kernel_rfl) ?_
    refine EL.done (by kernel_rfl) ?_
    refine EQ.to ?_
    refine EQ.keep [4, 55] [(4, .slice b7 b5.length b8), (55, .bool (!(i4)))] (by kernel_rfl) ?_
    exact fun a ha => ⟨e4, f3, !(i4), f8, g2, b7, b8, ha, (hS.re [1, 1] [] rfl (sub_cons 5 rfl (sub_cons 3 rfl (sub_cons 1 rfl (sub_cons 6 rfl (sub_cons 6 rfl (sub_cons 8 rfl (sub_cons 8 rfl (sub_cons 1 rfl (sub_cons 1 rfl (sub_tail (sub_tail (sub_tail (sub_tail (sub_tail (sub_tail (sub_tail (sub_tail (sub_tail (sub_tail (sub_tail (sub_tail (sub_self))))))))))))))))))))))), H⟩
   ·rw [if_neg j1] at H
    refine EL.keep [0, 4, 49] [(0, .slice a2 a1.length a3), (4, .slice b7 b5.length b8), (49, .bool (!(decide (g5 = 0))))] (by kernel_rfl) ?_
    refine EL.as' [(0, .slice a2 a1.length a3), (4, .slice b7 b5.length b8), (49, .bool (true))] (by simp only [dec_f j1, Bool.not_true, Bool.not_false]) ?_
    refine EL.quick 6 [4, 55] [(4, .slice b7 b5.length b8), (55, .bool (true))] (by kernel_rfl) ?_
    refine EL.done (by kernel_rfl) ?_
    refine EQ.to ?_
    have hS := St.fr hS 2 rfl
    refine EQ.keep [4, 55] [(4, .slice b7 b5.length b8), (55, .bool (true))] (by kernel_rfl) ?_
    exact fun a ha => ⟨e4, f3, true, f8, g2, b7, b8, ha, (hS.re [1, 1] [] rfl (sub_cons 1 rfl (sub_cons 0 rfl (sub_cons 6 rfl (sub_cons 2 rfl (sub_cons 2 rfl (sub_cons 4 rfl (sub_cons 4 rfl (sub_cons 6 rfl (sub_cons 6 rfl (sub_tail (sub_tail (sub_tail (sub_tail (sub_tail (sub_tail (sub_tail (sub_tail (sub_self))))))))))))))))))), H⟩
  ·obtain ⟨i5, j8, i0, m0, m2, f7, g1, ha, hS, H⟩ := hI
   rw [p1] at H
   (try dsimp only at H)
   refine EW.at ?_ a ha
   clear ha a
   refine EW.condP' (o := (.tmp 55)) (x := Cd39.r.r.r.r.r.l.r.l) (y := Cd39.r.r.r.r.r.l.r.r) (i0) (by kernel_rfl) (by kernel_rfl) (fun m4 => ?_) (fun m4 => ?_)
   ·rw [if_pos m4] at H
    refine EW.seq (x := Cd39.r.r.r.r.r.l.r.l.l) (y := Cd39.r.r.r.r.r.l.r.l.r) (by kernel_rfl) ?_
    refine EW.region (id := 13) (ops := Cd39.r.r.r.r.r.l.r.l.l.ops) (by kernel_rfl) ?_
    refine EL.quick 2 [2, 3] [(2, .slice none ([] : List S69).length 0), (3, .int .i64 20)] (by kernel_rfl) ?_
    refine EL.done (by kernel_rfl) ?_
    refine EQ.code ?_
    refine EW.ret (by kernel_rfl) ?_
    refine EQ.ret ?_
    have hS := St.nilR hS kS69
    simp only [Option.some.injEq, Prod.mk.injEq] at H
    obtain ⟨rfl, rfl⟩ := H
    exact EQ.leave (.tuple #[.slice none ([] : List S69).length 0, .int .i64 20]) (by kernel_rfl) ⟨_, rfl, none, 0, rfl, (hS.re [] [0, 0] rfl (sub_cons 0 rfl (sub_tail (sub_tail (sub_tail (sub_tail (sub_tail (sub_tail (sub_tail (sub_tail (sub_tail (sub_self))))))))))))⟩
   ·rw [if_neg m4] at H
    refine EW.skip (by kernel_rfl) ?_
    refine EQ.code ?_
    refine EW.seq (x := Cd39.r.r.r.r.r.r.l) (y := Cd39.r.r.r.r.r.r.r) (by kernel_rfl) ?_
    refine EW.region (id := 14) (ops := Cd39.r.r.r.r.r.r.l.ops) (by kernel_rfl) ?_
    refine EL.quick 3 [2, 3] [(2, .slice f7 b5.length g1), (3, .int .i64 0)] (by kernel_rfl) ?_
    refine EL.done (by kernel_rfl) ?_
    refine EQ.code ?_
    refine EW.ret (by kernel_rfl) ?_
    simp only [Option.some.injEq, Prod.mk.injEq] at H
    obtain ⟨rfl, rfl⟩ := H
    exact EQ.leave (.tuple #[.slice f7 b5.length g1, .int .i64 0]) (by kernel_rfl) ⟨_, rfl, f7, g1, rfl, (hS.re [] [0, 0] rfl (sub_cons 1 rfl (sub_tail (sub_tail (sub_tail (sub_tail (sub_tail (sub_tail (sub_tail (sub_tail (sub_self)))))))))))⟩

/-! ### (*confidant/audit.Log).All: function 36 -/
def audit_Log_All_16.f (K : Nat) (a0 : List S69) : Option (List S69 × List S69) := b1 (api_Record.f K a0) fun (a4 : List S69) => (some (a0, a4))
set_option maxRecDepth 100000 in
theorem audit_Log_All_16.calls {K : Nat} {a0 : List S69} {a3 : Nat} {a1 : Option Addr} {a2 : Nat} {a7 : List S69} {a8 : List S69} {B w : World} {os : List Ass} {rs : List Ro} (H : audit_Log_All_16.f K a0 = some (a7, a8)) (hS : St B w (Ass.box 113 a3 [.slice a1 a0.length a2] :: os) (Ro.sl kS69 a1 a2 a0 :: rs)) :
  Calls Try.prog 36 [.pointer (some ⟨a3, 0, none⟩)].toArray w (fun en w' => ∃ v, en = .returned v ∧ ∃ a9 : Option Addr, ∃ b2 : Nat, ∃ b0 : Option Addr, ∃ b3 : Nat, v = .slice b0 a8.length b3 ∧ St B w' (Ass.box 113 a3 [.slice a9 a7.length b2] :: Ass.own 69 kS69 b0 b3 a8 :: os) (Ro.sl kS69 a9 b2 a7 :: Ro.sl kS69 a1 a2 a0 :: rs)) := by
 unfold audit_Log_All_16.f at H
 refine calls_of_EW (args := [.pointer (some ⟨a3, 0, none⟩)]) (c := Cd36) 8 Try.func36 (by kernel_rfl) (by kernel_rfl) (by kernel_rfl) ?_
 refine EW.seq (x := Cd36.l) (y := Cd36.r) (by kernel_rfl) ?_
 refine EW.region (id := 0) (ops := Cd36.l.ops) (by kernel_rfl) ?_
 refine EL.quick 1 [0] [(0, .pointer (some ⟨a3, 0, none⟩))] (by kernel_rfl) ?_
 refine EL.done (by kernel_rfl) ?_
 refine EQ.code ?_
 refine EW.seq (x := Cd36.r.l) (y := Cd36.r.r) (by kernel_rfl) ?_
 refine EW.region (id := 1) (ops := Cd36.r.l.ops) (by kernel_rfl) ?_
 refine EL.quick 3 [5] [(5, .pointer (some ⟨a3, 0, none⟩))] (by kernel_rfl) ?_
 refine EL.of (EO.Y (YO.loadBox hS 0 rfl 64 0 1 (.slice a1 a0.length a2) 6 (by kernel_rfl) (by kernel_rfl) (by kernel_rfl) (by kernel_rfl)) ?_)
 have hS : St B _ (Ass.box 113 a3 [.slice a1 a0.length a2] :: os) (Ro.sl kS69 a1 a2 a0 :: Ro.sl kS69 a1 a2 a0 :: rs) := hS.re [] [] rfl (sub_cons 0 rfl sub_self)
 obtain ⟨a4, b4, H⟩ := b1_out H
 refine EL.of (EO.callD 54 [.slice a1 a0.length a2] _ 7 (by kernel_rfl) (by kernel_rfl) (by kernel_rfl) (api_Record.calls b4 hS) ?_)
 rintro v w ⟨a5, a6, rfl, hS⟩
 refine EL.quick 1 [2] [(2, .slice a5 a4.length a6)] (by kernel_rfl) ?_
 refine EL.done (by kernel_rfl) ?_
 refine EQ.code ?_
 refine EW.ret (by kernel_rfl) ?_
 simp only [Option.some.injEq, Prod.mk.injEq] at H
 obtain ⟨rfl, rfl⟩ := H
 exact EQ.leave (.slice a5 a4.length a6) (by kernel_rfl) ⟨_, rfl, a1, a2, a5, a6, rfl, (hS.re [0, 1] [] rfl (sub_cons 0 rfl (sub_tail (sub_self))))⟩

/-! ### slices.Index[[]int,int]: function 70 -/
def slices_Index_int_int.l0 (K : Nat) (a0 : List Int) (a2 : Int) : Nat → Int → Option Int
 | 0, _ => none
 | n + 1, a1 => if a1 < (a0.length : Int) then (if 0 ≤ a1 then (if a2 = (a0.getD a1.toNat 0) then (some a1) else (slices_Index_int_int.l0 K a0 a2 n (IntKind.i64.wrap (a1 + 1)))) else none) else (some (-1))
def slices_Index_int_int.f (K : Nat) (a0 : List Int) (a2 : Int) : Option Int := slices_Index_int_int.l0 K a0 a2 K 0
set_option maxRecDepth 100000 in
theorem slices_Index_int_int.calls {K : Nat} {a0 : List Int} {a2 : Int} {a4 : Option Addr} {a3 : Nat} {a9 : Int} {B w : World} {os : List Ass} {rs : List Ro} (H : slices_Index_int_int.f K a0 a2 = some a9) (hS : St B w (os) (Ro.sl (Kd.int .i64) a4 a3 a0 :: rs)) :
  Calls Try.prog 70 [.slice a4 a0.length a3, .int .i64 a2].toArray w (fun en w' => ∃ v, en = .returned v ∧ v = .int .i64 a9 ∧ St B w' (os) (Ro.sl (Kd.int .i64) a4 a3 a0 :: rs)) := by
 unfold slices_Index_int_int.f at H
 refine calls_of_EW (args := [.slice a4 a0.length a3, .int .i64 a2]) (c := Cd70) 19 Try.func70 (by kernel_rfl) (by kernel_rfl) (by kernel_rfl) ?_
 refine EW.seq (x := Cd70.l) (y := Cd70.r) (by kernel_rfl) ?_
 refine EW.region (id := 0) (ops := Cd70.l.ops) (by kernel_rfl) ?_
 refine EL.quick 1 [0, 1] [(0, .slice a4 a0.length a3), (1, .int .i64 a2)] (by kernel_rfl) ?_
 refine EL.done (by kernel_rfl) ?_
 refine EQ.code ?_
 refine EW.seq (x := Cd70.r.l) (y := Cd70.r.r) (by kernel_rfl) ?_
 refine EW.seq (x := Cd70.r.l.l) (y := Cd70.r.l.r) (by kernel_rfl) ?_
 refine EW.region (id := 1) (ops := Cd70.r.l.l.ops) (by kernel_rfl) ?_
 refine EL.quick 3 [0, 1, 7, 8] [(0, .slice a4 a0.length a3), (1, .int .i64 a2), (7, .int .i64 (a0.length : Int)), (8, .int .i64 0)] (by kernel_rfl) ?_
 refine EL.done (by kernel_rfl) ?_
 refine EQ.code ?_
 refine EW.block (x := Cd70.r.l.r.l) (id := 0) (by kernel_rfl) ?_
 refine EW.loop (x := Cd70.r.l.r.l.l) (fun n a w => ∃ a1 : Int, Sat 19 [(0, .slice a4 a0.length a3), (1, .int .i64 a2), (7, .int .i64 (a0.length : Int)), (8, .int .i64 a1)] a ∧ St B w (os) (Ro.sl (Kd.int .i64) a4 a3 a0 :: rs) ∧ slices_Index_int_int.l0 K a0 a2 n a1 = some a9) K (by kernel_rfl) ?_ (fun n a w hI => ?_)
 ·refine EQ.keep [0, 1, 7, 8] [(0, .slice a4 a0.length a3), (1, .int .i64 a2), (7, .int .i64 (a0.length : Int)), (8, .int .i64 0)] (by kernel_rfl) ?_
  exact fun a ha => ⟨0, ha, (hS.re [] [] rfl (sub_cons 0 rfl (sub_tail (sub_self)))), H⟩
 ·obtain ⟨a1, ha, hS, H⟩ := hI
  obtain _ | n := n
  ·simp [slices_Index_int_int.l0] at H
  rw [slices_Index_int_int.l0.eq_2] at H
  refine EW.at ?_ a ha
  clear ha a
  refine EW.seq (x := Cd70.r.l.r.l.l.l) (y := Cd70.r.l.r.l.l.r) (by kernel_rfl) ?_
  refine EW.region (id := 2) (ops := Cd70.r.l.r.l.l.l.ops) (by kernel_rfl) ?_
  refine EL.quick 1 [0, 1, 7, 8, 9] [(0, .slice a4 a0.length a3), (1, .int .i64 a2), (7, .int .i64 (a0.length : Int)), (8, .int .i64 a1), (9, .bool (decide (a1 < (a0.length : Int))))] (by kernel_rfl) ?_
  refine EL.done (by kernel_rfl) ?_
  refine EQ.code ?_
  refine EW.seq (x := Cd70.r.l.r.l.l.r.l) (y := Cd70.r.l.r.l.l.r.r) (by kernel_rfl) ?_
  refine EW.condP (o := (.tmp 9)) (x := Cd70.r.l.r.l.l.r.l.l) (y := Cd70.r.l.r.l.l.r.l.r) (a1 < (a0.length : Int)) (by kernel_rfl) (by kernel_rfl) (fun a5 => ?_) (fun a5 => ?_)
  ·rw [if_pos a5] at H
   refine EW.skip (by kernel_rfl) ?_
   refine EQ.code ?_
   refine EW.seq (x := Cd70.r.l.r.l.l.r.r.l) (y := Cd70.r.l.r.l.l.r.r.r) (by kernel_rfl) ?_
   refine EW.block (x := Cd70.r.l.r.l.l.r.r.l.l) (id := 1) (by kernel_rfl) ?_
   refine EW.seq (x := Cd70.r.l.r.l.l.r.r.l.l.l) (y := Cd70.r.l.r.l.l.r.r.l.l.r) (by kernel_rfl) ?_
   refine EW.region (id := 3) (ops := Cd70.r.l.r.l.l.r.r.l.l.l.ops) (by kernel_rfl) ?_
   refine EL.quick 2 [0, 1, 5, 7, 8] [(0, .slice a4 a0.length a3), (1, .int .i64 a2), (5, .int .i64 a1), (7, .int .i64 (a0.length : Int)), (8, .int .i64 a1)] (by kernel_rfl) ?_
   refine EL.done (by kernel_rfl) ?_
   refine EQ.code ?_
   refine EW.seq (x := Cd70.r.l.r.l.l.r.r.l.l.r.l) (y := Cd70.r.l.r.l.l.r.r.l.l.r.r) (by kernel_rfl) ?_
   refine EW.region (id := 4) (ops := Cd70.r.l.r.l.l.r.r.l.l.r.l.ops) (by kernel_rfl) ?_
   refine EL.quick 3 [0, 1, 5, 7, 8, 11, 12, 13] [(0, .slice a4 a0.length a3), (1, .int .i64 a2), (5, .int .i64 a1), (7, .int .i64 (a0.length : Int)), (8, .int .i64 a1), (11, .int .i64 a2), (12, .slice a4 a0.length a3), (13, .int .i64 a1)] (by kernel_rfl) ?_
   obtain ⟨a7, H⟩ := ite_in H
   obtain ⟨a6, rfl⟩ := St.rd_some hS (Rd.ro 0 rfl) a7 a5
   refine EL.of (EO.Y (YO.idx 66 1 a6 a0.length a3 .i64 a1 14 (by kernel_rfl) (by kernel_rfl) (by kernel_rfl) (by kernel_rfl) a7 a5) ?_)
   refine EL.of (EO.Y (YO.loadEl hS (Kd.int .i64) a6 a3 a0 (Rd.ro 0 rfl) 0 (encI .i64) encI_of a1 a7 a5 3 1 0 1 rfl (.int .i64 (a0.getD a1.toNat 0)) 15 (by kernel_rfl) (by kernel_rfl) (by kernel_rfl) (by kernel_rfl)) ?_)
   refine EL.quick 1 [0, 1, 5, 7, 8, 16] [(0, .slice (some a6) a0.length a3), (1, .int .i64 a2), (5, .int .i64 a1), (7, .int .i64 (a0.length : Int)), (8, .int .i64 a1), (16, .bool (decide (a2 = (a0.getD a1.toNat 0))))] (by kernel_rfl) ?_
   refine EL.done (by kernel_rfl) ?_
   refine EQ.code ?_
   refine EW.condP (o := (.tmp 16)) (x := Cd70.r.l.r.l.l.r.r.l.l.r.r.l) (y := Cd70.r.l.r.l.l.r.r.l.l.r.r.r) (a2 = (a0.getD a1.toNat 0)) (by kernel_rfl) (by kernel_rfl) (fun a8 => ?_) (fun a8 => ?_)
   ·rw [if_pos a8] at H
    refine EW.seq (x := Cd70.r.l.r.l.l.r.r.l.l.r.r.l.l) (y := Cd70.r.l.r.l.l.r.r.l.l.r.r.l.r) (by kernel_rfl) ?_
    refine EW.region (id := 5) (ops := Cd70.r.l.r.l.l.r.r.l.l.r.r.l.l.ops) (by kernel_rfl) ?_
    refine EL.quick 2 [4] [(4, .int .i64 a1)] (by kernel_rfl) ?_
    refine EL.done (by kernel_rfl) ?_
    refine EQ.code ?_
    refine EW.ret (by kernel_rfl) ?_
    refine EQ.ret ?_
    refine EQ.ret ?_
    refine EQ.ret ?_
    refine EQ.ret ?_
    refine EQ.ret ?_
    obtain rfl := Option.some.inj H
    exact EQ.leave (.int .i64 a1) (by kernel_rfl) ⟨_, rfl, rfl, (hS.re [] [] rfl (sub_self))⟩
   ·rw [if_neg a8] at H
    refine EW.skip (by kernel_rfl) ?_
    refine EQ.pop ?_
    refine EQ.code ?_
    refine EW.region (id := 6) (ops := Cd70.r.l.r.l.l.r.r.r.ops) (by kernel_rfl) ?_
    refine EL.quick 2 [0, 1, 7, 8] [(0, .slice (some a6) a0.length a3), (1, .int .i64 a2), (7, .int .i64 (a0.length : Int)), (8, .int .i64 (IntKind.i64.wrap (a1 + 1)))] (by kernel_rfl) ?_
    refine EL.done (by kernel_rfl) ?_
    refine EQ.to ?_
    refine EQ.keep [0, 1, 7, 8] [(0, .slice (some a6) a0.length a3), (1, .int .i64 a2), (7, .int .i64 (a0.length : Int)), (8, .int .i64 (IntKind.i64.wrap (a1 + 1)))] (by kernel_rfl) ?_
    exact fun a ha => ⟨n, Nat.lt_succ_self n, IntKind.i64.wrap (a1 + 1), ha, (hS.re [] [] rfl (sub_cons 0 rfl (sub_tail (sub_self)))), H⟩
  ·rw [if_neg a5] at H
   refine EW.exit (id := 0) (by kernel_rfl) ?_
   refine EQ.exitCode ?_
   refine EQ.exitTo ?_
   refine EQ.exitHere ?_
   refine EQ.code ?_
   refine EW.seq (x := Cd70.r.r.l) (y := Cd70.r.r.r) (by kernel_rfl) ?_
   refine EW.region (id := 7) (ops := Cd70.r.r.l.ops) (by kernel_rfl) ?_
   refine EL.quick 1 [4] [(4, .int .i64 (-1))] (by kernel_rfl) ?_
   refine EL.done (by kernel_rfl) ?_
   refine EQ.code ?_
   refine EW.ret (by kernel_rfl) ?_
   obtain rfl := Option.some.inj H
   exact EQ.leave (.int .i64 (-1)) (by kernel_rfl) ⟨_, rfl, rfl, (hS.re [] [] rfl (sub_self))⟩

/-! ### slices.Contains[[]int,int]: function 55 -/
def slices_Contains_int_int.f (K : Nat) (a0 : List Int) (a3 : Int) : Option Bool := b1 (slices_Index_int_int.f K a0 a3) fun (a4 : Int) => (some (decide (a4 ≥ 0)))
set_option maxRecDepth 100000 in
theorem slices_Contains_int_int.calls {K : Nat} {a0 : List Int} {a3 : Int} {a1 : Option Addr} {a2 : Nat} {a5 : Bool} {B w : World} {os : List Ass} {rs : List Ro} (H : slices_Contains_int_int.f K a0 a3 = some a5) (hS : St B w (os) (Ro.sl (Kd.int .i64) a1 a2 a0 :: rs)) :
  Calls Try.prog 55 [.slice a1 a0.length a2, .int .i64 a3].toArray w (fun en w' => ∃ v, en = .returned v ∧ v = .bool (a5) ∧ St B w' (os) (Ro.sl (Kd.int .i64) a1 a2 a0 :: rs)) := by
 unfold slices_Contains_int_int.f at H
 refine calls_of_EW (args := [.slice a1 a0.length a2, .int .i64 a3]) (c := Cd55) 9 Try.func55 (by kernel_rfl) (by kernel_rfl) (by kernel_rfl) ?_
 refine EW.seq (x := Cd55.l) (y := Cd55.r) (by kernel_rfl) ?_
 refine EW.region (id := 0) (ops := Cd55.l.ops) (by kernel_rfl) ?_
 refine EL.quick 1 [0, 1] [(0, .slice a1 a0.length a2), (1, .int .i64 a3)] (by kernel_rfl) ?_
 refine EL.done (by kernel_rfl) ?_
 refine EQ.code ?_
 refine EW.seq (x := Cd55.r.l) (y := Cd55.r.r) (by kernel_rfl) ?_
 refine EW.region (id := 1) (ops := Cd55.r.l.ops) (by kernel_rfl) ?_
 refine EL.quick 2 [5, 6] [(5, .slice a1 a0.length a2), (6, .int .i64 a3)] (by kernel_rfl) ?_
 have hS : St B _ (os) (Ro.sl (Kd.int .i64) a1 a2 a0 :: Ro.sl (Kd.int .i64) a1 a2 a0 :: rs) := hS.re [] [] rfl (sub_cons 0 rfl sub_self)
 obtain ⟨a4, a6, H⟩ := b1_out H
 refine EL.of (EO.callD 70 [.slice a1 a0.length a2, .int .i64 a3] _ 7 (by kernel_rfl) (by kernel_rfl) (by kernel_rfl) (slices_Index_int_int.calls a6 hS) ?_)
 rintro v w ⟨rfl, hS⟩
 refine EL.quick 2 [4] [(4, .bool (decide (a4 ≥ 0)))] (by kernel_rfl) ?_
 refine EL.done (by kernel_rfl) ?_
 refine EQ.code ?_
 refine EW.ret (by kernel_rfl) ?_
 obtain rfl := Option.some.inj H
 exact EQ.leave (.bool (decide (a4 ≥ 0))) (by kernel_rfl) ⟨_, rfl, rfl, (hS.re [] [] rfl (sub_tail (sub_self)))⟩

/-! ### (*confidant/audit.Log).Of: function 37 -/
def audit_Log_Of.l0 (K : Nat) (a0 : List S69) (a2 : List Int) : Nat → (List S69) → Int → Option (List S69 × List S69)
 | 0, _, _ => none
 | n + 1, a6, a1 => if a1 < (a0.length : Int) then (lt (fun (b3 : List S69) => (audit_Log_Of.l0 K a0 a2 n b3 (IntKind.i64.wrap (a1 + 1)))) fun c4 => (if 0 ≤ a1 then (b1 (slices_Contains_int_int.f K a2 ((a0.getD a1.toNat zS69).f2)) fun (c7 : Bool) => (if c7 = true then (lt ([(⟨(a0.getD a1.toNat zS69).f0, (a0.getD a1.toNat zS69).f1, (a0.getD a1.toNat zS69).f2, (a0.getD a1.toNat zS69).f3, (a0.getD a1.toNat zS69).f4, (a0.getD a1.toNat zS69).f5⟩ : S69)] : List S69) fun b9 => (if (a6.length + b9.length) * 48 ≤ 140737488355328 then (lt (a6 ++ b9) fun b5 => (c4 b5)) else none)) else (c4 a6))) else none)) else (some (a0, a6))
def audit_Log_Of.f (K : Nat) (a0 : List S69) (a2 : List Int) : Option (List S69 × List S69) := audit_Log_Of.l0 K a0 a2 K ([] : List S69) 0
set_option maxRecDepth 100000 in
theorem audit_Log_Of.calls {K : Nat} {a0 : List S69} {a2 : List Int} {b0 : Nat} {a7 : Option Addr} {a3 : Nat} {a4 : Option Addr} {a5 : Nat} {c2 : List S69} {c3 : List S69} {B w : World} {os : List Ass} {rs : List Ro} (H : audit_Log_Of.f K a0 a2 = some (c2, c3)) (hS : St B w (Ass.box 113 b0 [.slice a7 a0.length a3] :: os) (Ro.sl kS69 a7 a3 a0 :: Ro.sl (Kd.int .i64) a4 a5 a2 :: rs)) :
  Calls Try.prog 37 [.pointer (some ⟨b0, 0, none⟩), .slice a4 a2.length a5].toArray w (fun en w' => ∃ v, en = .returned v ∧ ∃ c8 : Option Addr, ∃ d0 : Nat, ∃ c9 : Option Addr, ∃ d1 : Nat, v = .slice c9 c3.length d1 ∧ St B w' (Ass.box 113 b0 [.slice c8 c2.length d0] :: Ass.own 69 kS69 c9 d1 c3 :: os) (Ro.sl kS69 c8 d0 c2 :: Ro.sl kS69 a7 a3 a0 :: Ro.sl (Kd.int .i64) a4 a5 a2 :: rs)) := by
 unfold audit_Log_Of.f at H
 refine calls_of_EW (args := [.pointer (some ⟨b0, 0, none⟩), .slice a4 a2.length a5]) (c := Cd37) 27 Try.func37 (by kernel_rfl) (by kernel_rfl) (by kernel_rfl) ?_
 refine EW.seq (x := Cd37.l) (y := Cd37.r) (by kernel_rfl) ?_
 refine EW.region (id := 0) (ops := Cd37.l.ops) (by kernel_rfl) ?_
 refine EL.quick 1 [0, 1] [(0, .pointer (some ⟨b0, 0, none⟩)), (1, .slice a4 a2.length a5)] (by kernel_rfl) ?_
 refine EL.done (by kernel_rfl) ?_
 refine EQ.code ?_
 refine EW.seq (x := Cd37.r.l) (y := Cd37.r.r) (by kernel_rfl) ?_
 refine EW.region (id := 1) (ops := Cd37.r.l.ops) (by kernel_rfl) ?_
 refine EL.quick 1 [0, 1, 5] [(0, .pointer (some ⟨b0, 0, none⟩)), (1, .slice a4 a2.length a5), (5, .slice none ([] : List S69).length 0)] (by kernel_rfl) ?_
 refine EL.done (by kernel_rfl) ?_
 refine EQ.code ?_
 refine EW.seq (x := Cd37.r.r.l) (y := Cd37.r.r.r) (by kernel_rfl) ?_
 refine EW.seq (x := Cd37.r.r.l.l) (y := Cd37.r.r.l.r) (by kernel_rfl) ?_
 refine EW.region (id := 2) (ops := Cd37.r.r.l.l.ops) (by kernel_rfl) ?_
 refine EL.quick 3 [1, 5, 10] [(1, .slice a4 a2.length a5), (5, .slice none ([] : List S69).length 0), (10, .pointer (some ⟨b0, 0, none⟩))] (by kernel_rfl) ?_
 refine EL.of (EO.Y (YO.loadBox hS 0 rfl 64 0 1 (.slice a7 a0.length a3) 11 (by kernel_rfl) (by kernel_rfl) (by kernel_rfl) (by kernel_rfl)) ?_)
 refine EL.quick 2 [1, 5, 11, 12, 13] [(1, .slice a4 a2.length a5), (5, .slice none ([] : List S69).length 0), (11, .slice a7 a0.length a3), (12, .int .i64 (a0.length : Int)), (13, .int .i64 0)] (by kernel_rfl) ?_
 refine EL.done (by kernel_rfl) ?_
 refine EQ.code ?_
 refine EW.block (x := Cd37.r.r.l.r.l) (id := 0) (by kernel_rfl) ?_
 have hS := St.nilO hS 69 kS69
 refine EW.loop (x := Cd37.r.r.l.r.l.l) (fun n a w => ∃ a6 : List S69, ∃ a1 : Int, ∃ a8 : Option Addr, ∃ a9 : Nat, Sat 27 [(1, .slice a4 a2.length a5), (5, .slice a8 a6.length a9), (11, .slice a7 a0.length a3), (12, .int .i64 (a0.length : Int)), (13, .int .i64 a1)] a ∧ St B w (Ass.box 113 b0 [.slice a7 a0.length a3] :: Ass.own 69 kS69 a8 a9 a6 :: os) (Ro.sl kS69 a7 a3 a0 :: Ro.sl (Kd.int .i64) a4 a5 a2 :: rs) ∧ audit_Log_Of.l0 K a0 a2 n a6 a1 = some (c2, c3)) K (by kernel_rfl) ?_ (fun n a w hI => ?_)
 ·refine EQ.keep [1, 5, 11, 12, 13] [(1, .slice a4 a2.length a5), (5, .slice none ([] : List S69).length 0), (11, .slice a7 a0.length a3), (12, .int .i64 (a0.length : Int)), (13, .int .i64 0)] (by kernel_rfl) ?_
  exact fun a ha => ⟨([] : List S69), 0, none, 0, ha, (hS.re [0, 1] [] rfl (sub_cons 0 rfl (sub_cons 1 rfl (sub_tail (sub_tail (sub_self)))))), H⟩
 ·obtain ⟨a6, a1, a8, a9, ha, hS, H⟩ := hI
  obtain _ | n := n
  ·simp [audit_Log_Of.l0] at H
  rw [audit_Log_Of.l0.eq_2] at H
  refine EW.at ?_ a ha
  clear ha a
  refine EW.seq (x := Cd37.r.r.l.r.l.l.l) (y := Cd37.r.r.l.r.l.l.r) (by kernel_rfl) ?_
  refine EW.region (id := 3) (ops := Cd37.r.r.l.r.l.l.l.ops) (by kernel_rfl) ?_
  refine EL.quick 1 [1, 5, 11, 12, 13, 14] [(1, .slice a4 a2.length a5), (5, .slice a8 a6.length a9), (11, .slice a7 a0.length a3), (12, .int .i64 (a0.length : Int)), (13, .int .i64 a1), (14, .bool (decide (a1 < (a0.length : Int))))] (by kernel_rfl) ?_
  refine EL.done (by kernel_rfl) ?_
  refine EQ.code ?_
  refine EW.seq (x := Cd37.r.r.l.r.l.l.r.l) (y := Cd37.r.r.l.r.l.l.r.r) (by kernel_rfl) ?_
  refine EW.condP (o := (.tmp 14)) (x := Cd37.r.r.l.r.l.l.r.l.l) (y := Cd37.r.r.l.r.l.l.r.l.r) (a1 < (a0.length : Int)) (by kernel_rfl) (by kernel_rfl) (fun b8 => ?_) (fun b8 => ?_)
  ·rw [if_pos b8] at H
   refine EW.skip (by kernel_rfl) ?_
   refine EQ.code ?_
   obtain ⟨c4, d7, H⟩ := lt_out H
   refine EW.cut (x := Cd37.r.r.l.r.l.l.r.r.l) (y := Cd37.r.r.l.r.l.l.r.r.r) (fun a w => ∃ b3 : List S69, ∃ d2 : Nat, ∃ b6 : Option Addr, ∃ b7 : Nat, Sat 27 [(1, .slice a4 a2.length a5), (5, .slice b6 b3.length b7), (11, .slice a7 a0.length a3), (12, .int .i64 (a0.length : Int)), (13, .int .i64 a1)] a ∧ St B w (Ass.box 69 d2 [.int .i64 ((a0.getD a1.toNat zS69).f0), .int .i64 ((a0.getD a1.toNat zS69).f1), .int .i64 ((a0.getD a1.toNat zS69).f2), .int .i32 ((a0.getD a1.toNat zS69).f3), .int .i64 ((a0.getD a1.toNat zS69).f4), .int .i32 ((a0.getD a1.toNat zS69).f5)] :: Ass.box 113 b0 [.slice a7 a0.length a3] :: Ass.own 69 kS69 b6 b7 b3 :: os) (Ro.sl (Kd.int .i64) a4 a5 a2 :: Ro.sl kS69 a7 a3 a0 :: Ro.sl (Kd.int .i64) a4 a5 a2 :: rs) ∧ c4 b3 = some (c2, c3)) (by kernel_rfl) ?_ (fun a w hI => ?_)
   ·refine EW.block (x := Cd37.r.r.l.r.l.l.r.r.l.l) (id := 1) (by kernel_rfl) ?_
    refine EW.seq (x := Cd37.r.r.l.r.l.l.r.r.l.l.l) (y := Cd37.r.r.l.r.l.l.r.r.l.l.r) (by kernel_rfl) ?_
    refine EW.region (id := 4) (ops := Cd37.r.r.l.r.l.l.r.r.l.l.l.ops) (by kernel_rfl) ?_
    obtain ⟨c5, H⟩ := ite_in H
    obtain ⟨b2, rfl⟩ := St.rd_some hS (Rd.ro 0 rfl) c5 b8
    refine EL.of (EO.Y (YO.idx 64 6 b2 a0.length a3 .i64 a1 15 (by kernel_rfl) (by kernel_rfl) (by kernel_rfl) (by kernel_rfl) c5 b8) ?_)
    refine EL.of (EO.Y (YO.loadEl hS kS69 b2 a3 a0 (Rd.ro 0 rfl) zS69 encS69 encS69_of a1 c5 b8 69 6 0 6 rfl (.agg #[.int .i64 ((a0.getD a1.toNat zS69).f0), .int .i64 ((a0.getD a1.toNat zS69).f1), .int .i64 ((a0.getD a1.toNat zS69).f2), .int .i32 ((a0.getD a1.toNat zS69).f3), .int .i64 ((a0.getD a1.toNat zS69).f4), .int .i32 ((a0.getD a1.toNat zS69).f5)]) 16 (by kernel_rfl) (by kernel_rfl) (by kernel_rfl) (by kernel_rfl)) ?_)
    refine EL.of (EO.alloc hS 69 (.agg #[.int .i64 0, .int .i64 0, .int .i64 0, .int .i32 0, .int .i64 0, .int .i32 0]) [.int .i64 0, .int .i64 0, .int .i64 0, .int .i32 0, .int .i64 0, .int .i32 0] 7 (by kernel_rfl) (by kernel_rfl) (by kernel_rfl) (by kernel_rfl) (by first | rfl | kernel_rfl) ?_)
    intro b4 w hS
    refine EL.of (EO.storeBox (os' := Ass.box 69 b4 [.int .i64 ((a0.getD a1.toNat zS69).f0), .int .i64 ((a0.getD a1.toNat zS69).f1), .int .i64 ((a0.getD a1.toNat zS69).f2), .int .i32 ((a0.getD a1.toNat zS69).f3), .int .i64 ((a0.getD a1.toNat zS69).f4), .int .i32 ((a0.getD a1.toNat zS69).f5)] :: Ass.box 113 b0 [.slice (some b2) a0.length a3] :: Ass.own 69 kS69 a8 a9 a6 :: os) hS 0 rfl 69 0 (.agg #[.int .i64 ((a0.getD a1.toNat zS69).f0), .int .i64 ((a0.getD a1.toNat zS69).f1), .int .i64 ((a0.getD a1.toNat zS69).f2), .int .i32 ((a0.getD a1.toNat zS69).f3), .int .i64 ((a0.getD a1.toNat zS69).f4), .int .i32 ((a0.getD a1.toNat zS69).f5)]) [.int .i64 ((a0.getD a1.toNat zS69).f0), .int .i64 ((a0.getD a1.toNat zS69).f1), .int .i64 ((a0.getD a1.toNat zS69).f2), .int .i32 ((a0.getD a1.toNat zS69).f3), .int .i64 ((a0.getD a1.toNat zS69).f4), .int .i32 ((a0.getD a1.toNat zS69).f5)] (by kernel_rfl) (by kernel_rfl) (by kernel_rfl) (by kernel_rfl) (by kernel_rfl) (by kernel_rfl) rfl rfl ?_)
    intro w hS
    refine EL.done (by kernel_rfl) ?_
    refine EQ.code ?_
    refine EW.seq (x := Cd37.r.r.l.r.l.l.r.r.l.l.r.l) (y := Cd37.r.r.l.r.l.l.r.r.l.l.r.r) (by kernel_rfl) ?_
    refine EW.region (id := 5) (ops := Cd37.r.r.l.r.l.l.r.r.l.l.r.l.ops) (by kernel_rfl) ?_
    refine EL.quick 2 [1, 5, 7, 11, 12, 13, 17, 18] [(1, .slice a4 a2.length a5), (5, .slice a8 a6.length a9), (7, .pointer (some ⟨b4, 0, none⟩)), (11, .slice (some b2) a0.length a3), (12, .int .i64 (a0.length : Int)), (13, .int .i64 a1), (17, .slice a4 a2.length a5), (18, .pointer (some ⟨b4, 2, none⟩))] (by kernel_rfl) ?_
    refine EL.of (EO.Y (YO.loadBox hS 0 rfl 3 2 1 (.int .i64 ((a0.getD a1.toNat zS69).f2)) 19 (by kernel_rfl) (by kernel_rfl) (by kernel_rfl) (by kernel_rfl)) ?_)
    have hS : St B _ (Ass.box 69 b4 [.int .i64 ((a0.getD a1.toNat zS69).f0), .int .i64 ((a0.getD a1.toNat zS69).f1), .int .i64 ((a0.getD a1.toNat zS69).f2), .int .i32 ((a0.getD a1.toNat zS69).f3), .int .i64 ((a0.getD a1.toNat zS69).f4), .int .i32 ((a0.getD a1.toNat zS69).f5)] :: Ass.box 113 b0 [.slice (some b2) a0.length a3] :: Ass.own 69 kS69 a8 a9 a6 :: os) (Ro.sl (Kd.int .i64) a4 a5 a2 :: Ro.sl kS69 (some b2) a3 a0 :: Ro.sl (Kd.int .i64) a4 a5 a2 :: rs) := hS.re [] [] rfl (sub_cons 1 rfl sub_self)
    obtain ⟨c7, d6, H⟩ := b1_out H
    refine EL.of (EO.callD 55 [.slice a4 a2.length a5, .int .i64 ((a0.getD a1.toNat zS69).f2)] _ 20 (by kernel_rfl) (by kernel_rfl) (by kernel_rfl) (slices_Contains_int_int.calls d6 hS) ?_)
    rintro v w ⟨rfl, hS⟩
    refine EL.done (by kernel_rfl) ?_
    refine EQ.code ?_
    refine EW.condP' (o := (.tmp 20)) (x := Cd37.r.r.l.r.l.l.r.r.l.l.r.r.l) (y := Cd37.r.r.l.r.l.l.r.r.l.l.r.r.r) (c7) (by kernel_rfl) (by kernel_rfl) (fun c6 => ?_) (fun c6 => ?_)
    ·rw [if_pos c6] at H
     refine EW.region (id := 6) (ops := Cd37.r.r.l.r.l.l.r.r.l.l.r.r.l.ops) (by kernel_rfl) ?_
     refine EL.quick 1 [1, 7, 11, 12, 13, 21] [(1, .slice a4 a2.length a5), (7, .pointer (some ⟨b4, 0, none⟩)), (11, .slice (some b2) a0.length a3), (12, .int .i64 (a0.length : Int)), (13, .int .i64 a1), (21, .slice a8 a6.length a9)] (by kernel_rfl) ?_
     refine EL.of (EO.Y (YO.loadBox hS 0 rfl 69 0 6 (.agg #[.int .i64 ((a0.getD a1.toNat zS69).f0), .int .i64 ((a0.getD a1.toNat zS69).f1), .int .i64 ((a0.getD a1.toNat zS69).f2), .int .i32 ((a0.getD a1.toNat zS69).f3), .int .i64 ((a0.getD a1.toNat zS69).f4), .int .i32 ((a0.getD a1.toNat zS69).f5)]) 22 (by kernel_rfl) (by kernel_rfl) (by kernel_rfl) (by kernel_rfl)) ?_)
     obtain ⟨b9, d4, H⟩ := lt_out H
     refine EL.of (EO.lit hS kS69 69 64 1 #[(0, .agg #[.int .i64 ((a0.getD a1.toNat zS69).f0), .int .i64 ((a0.getD a1.toNat zS69).f1), .int .i64 ((a0.getD a1.toNat zS69).f2), .int .i32 ((a0.getD a1.toNat zS69).f3), .int .i64 ((a0.getD a1.toNat zS69).f4), .int .i32 ((a0.getD a1.toNat zS69).f5)])] [.int .i64 ((a0.getD a1.toNat zS69).f0), .int .i64 ((a0.getD a1.toNat zS69).f1), .int .i64 ((a0.getD a1.toNat zS69).f2), .int .i32 ((a0.getD a1.toNat zS69).f3), .int .i64 ((a0.getD a1.toNat zS69).f4), .int .i32 ((a0.getD a1.toNat zS69).f5)] b9 23 (by kernel_rfl) (by kernel_rfl) (by kernel_rfl) (fun _ => (by kernel_rfl)) (by rw [d4]; rfl) (by kernel_rfl) (fun w G hr => (by rw [d4]; exact ⟨[.int .i64 ((a0.getD a1.toNat zS69).f0), .int .i64 ((a0.getD a1.toNat zS69).f1), .int .i64 ((a0.getD a1.toNat zS69).f2), .int .i32 ((a0.getD a1.toNat zS69).f3), .int .i64 ((a0.getD a1.toNat zS69).f4), .int .i32 ((a0.getD a1.toNat zS69).f5)], [], rfl, ⟨[.int .i64 ((a0.getD a1.toNat zS69).f0)], [.int .i64 ((a0.getD a1.toNat zS69).f1), .int .i64 ((a0.getD a1.toNat zS69).f2), .int .i32 ((a0.getD a1.toNat zS69).f3), .int .i64 ((a0.getD a1.toNat zS69).f4), .int .i32 ((a0.getD a1.toNat zS69).f5)], rfl, rfl, ⟨[.int .i64 ((a0.getD a1.toNat zS69).f1)], [.int .i64 ((a0.getD a1.toNat zS69).f2), .int .i32 ((a0.getD a1.toNat zS69).f3), .int .i64 ((a0.getD a1.toNat zS69).f4), .int .i32 ((a0.getD a1.toNat zS69).f5)], rfl, rfl, ⟨[.int .i64 ((a0.getD a1.toNat zS69).f2)], [.int .i32 ((a0.getD a1.toNat zS69).f3), .int .i64 ((a0.getD a1.toNat zS69).f4), .int .i32 ((a0.getD a1.toNat zS69).f5)], rfl, rfl, ⟨[.int .i32 ((a0.getD a1.toNat zS69).f3)], [.int .i64 ((a0.getD a1.toNat zS69).f4), .int .i32 ((a0.getD a1.toNat zS69).f5)], rfl, rfl, ⟨[.int .i64 ((a0.getD a1.toNat zS69).f4)], [.int .i32 ((a0.getD a1.toNat zS69).f5)], rfl, rfl, ⟨[.int .i32 ((a0.getD a1.toNat zS69).f5)], [], rfl, rfl, rfl⟩⟩⟩⟩⟩⟩, rfl⟩)) ?_)
     intro d3 w hS
     obtain ⟨d5, H⟩ := ite_in H
     obtain ⟨b5, d8, H⟩ := lt_out H
     refine EL.of (EO.append hS 64 64 69 48 3 kS69 a8 a9 a6 rfl (some ⟨d3, 0, none⟩) 1 b9 (Rd.own 0 69 rfl) b5 d8 (fun c0 c1 => Ass.own 69 kS69 (some ⟨d3, 0, none⟩) 1 b9 :: Ass.box 69 b4 [.int .i64 ((a0.getD a1.toNat zS69).f0), .int .i64 ((a0.getD a1.toNat zS69).f1), .int .i64 ((a0.getD a1.toNat zS69).f2), .int .i32 ((a0.getD a1.toNat zS69).f3), .int .i64 ((a0.getD a1.toNat zS69).f4), .int .i32 ((a0.getD a1.toNat zS69).f5)] :: Ass.box 113 b0 [.slice (some b2) a0.length a3] :: Ass.own 69 kS69 c0 c1 b5 :: os) 24 (by kernel_rfl) (by kernel_rfl) (by kernel_rfl) (by kernel_rfl) d5 (fun _ _ => rfl) ?_)
     intro c0 c1 w hS
     refine EL.quick 1 [1, 5, 11, 12, 13] [(1, .slice a4 a2.length a5), (5, .slice c0 b5.length c1), (11, .slice (some b2) a0.length a3), (12, .int .i64 (a0.length : Int)), (13, .int .i64 a1)] (by kernel_rfl) ?_
     refine EL.done (by kernel_rfl) ?_
     refine EQ.pop ?_
     refine EQ.to ?_
     refine EQ.keep [1, 5, 11, 12, 13] [(1, .slice a4 a2.length a5), (5, .slice c0 b5.length c1), (11, .slice (some b2) a0.length a3), (12, .int .i64 (a0.length : Int)), (13, .int .i64 a1)] (by kernel_rfl) ?_
     exact fun a ha => ⟨b5, b4, c0, c1, ha, (hS.re [3, 3, 3] [3] rfl (sub_cons 0 rfl (sub_cons 1 rfl (sub_cons 0 rfl (sub_tail (sub_tail (sub_tail (sub_self)))))))), H⟩
    ·rw [if_neg c6] at H
     refine EW.skip (by kernel_rfl) ?_
     refine EQ.pop ?_
     refine EQ.to ?_
     refine EQ.keep [1, 5, 11, 12, 13] [(1, .slice a4 a2.length a5), (5, .slice a8 a6.length a9), (11, .slice (some b2) a0.length a3), (12, .int .i64 (a0.length : Int)), (13, .int .i64 a1)] (by kernel_rfl) ?_
     exact fun a ha => ⟨a6, b4, a8, a9, ha, (hS.re [2, 2, 2] [] rfl (sub_cons 0 rfl (sub_cons 1 rfl (sub_cons 0 rfl (sub_tail (sub_tail (sub_tail (sub_self)))))))), H⟩
   ·obtain ⟨b3, d2, b6, b7, ha, hS, H⟩ := hI
    rw [d7] at H
    (try dsimp only at H)
    refine EW.at ?_ a ha
    clear ha a
    refine EW.region (id := 7) (ops := Cd37.r.r.l.r.l.l.r.r.r.ops) (by kernel_rfl) ?_
    refine EL.quick 2 [1, 5, 11, 12, 13] [(1, .slice a4 a2.length a5), (5, .slice b6 b3.length b7), (11, .slice a7 a0.length a3), (12, .int .i64 (a0.length : Int)), (13, .int .i64 (IntKind.i64.wrap (a1 + 1)))] (by kernel_rfl) ?_
    refine EL.done (by kernel_rfl) ?_
    refine EQ.to ?_
    refine EQ.keep [1, 5, 11, 12, 13] [(1, .slice a4 a2.length a5), (5, .slice b6 b3.length b7), (11, .slice a7 a0.length a3), (12, .int .i64 (a0.length : Int)), (13, .int .i64 (IntKind.i64.wrap (a1 + 1)))] (by kernel_rfl) ?_
    exact fun a ha => ⟨n, Nat.lt_succ_self n, b3, IntKind.i64.wrap (a1 + 1), b6, b7, ha, (hS.re [2, 2] [2] rfl (sub_cons 1 rfl (sub_cons 0 rfl (sub_tail (sub_tail (sub_tail (sub_self))))))), H⟩
  ·rw [if_neg b8] at H
   refine EW.exit (id := 0) (by kernel_rfl) ?_
   refine EQ.exitCode ?_
   refine EQ.exitTo ?_
   refine EQ.exitHere ?_
   refine EQ.code ?_
   refine EW.seq (x := Cd37.r.r.r.l) (y := Cd37.r.r.r.r) (by kernel_rfl) ?_
   refine EW.region (id := 8) (ops := Cd37.r.r.r.l.ops) (by kernel_rfl) ?_
   refine EL.quick 2 [4] [(4, .slice a8 a6.length a9)] (by kernel_rfl) ?_
   refine EL.done (by kernel_rfl) ?_
   refine EQ.code ?_
   refine EW.ret (by kernel_rfl) ?_
   simp only [Option.some.injEq, Prod.mk.injEq] at H
   obtain ⟨rfl, rfl⟩ := H
   exact EQ.leave (.slice a8 a6.length a9) (by kernel_rfl) ⟨_, rfl, a7, a3, a8, a9, rfl, (hS.re [1, 1] [] rfl (sub_cons 0 rfl (sub_self)))⟩

end Go.Proofs.Ytipaaapbapijhaa.G
