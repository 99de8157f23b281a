import Derived.Test.YtlcnkngpankkpaaProg
import Derived.Test.YtlcnkngpankkpaaFwEq
import Derived.Test.YtlcnkngpankkpaaFwOpen
namespace Go.Proofs.Ytlcnkngpankkpaa.G
open Go Go.Fw Go.RowKit Go.Proofs
set_option linter.unusedVariables false
set_option linter.unusedSimpArgs false

structure S51 where
 f0 : Int
 f1 : Int
deriving DecidableEq
def zS51 : S51 := ⟨0, 0⟩
def kS51 : Kd S51 := Kd.iso (Kd.prod (Kd.int .u8) (Kd.prod (Kd.int .u8) Kd.unit)) (fun s => (s.f0, s.f1, ()))
def encS51 (s : S51) : List Value := [.int .u8 s.f0, .int .u8 s.f1]
theorem encS51_of (w : World) (G : Bl) (vs : List Value) (x : S51) (h : kS51.rep w G vs x) : vs = encS51 x := by
 obtain ⟨_, _, rfl, h0, ⟨_, _, rfl, h1, hu⟩⟩ := h
 have h0 := encI_of _ _ _ _ h0
 have h1 := encI_of _ _ _ _ h1
 have hu : _ = [] := hu
 subst hu
 subst h0
 subst h1
 rfl

noncomputable def Cd7 : Code := bodyOf Try.f7

noncomputable def Cd23 : Code := bodyOf Try.f23

noncomputable def Cd24 : Code := bodyOf Try.f24

noncomputable def Cd41 : Code := bodyOf Try.f41

/-! ### confidant/confidantref5.Arg: function 24 -/
def confidantref5_Arg.f (K : Nat) (a60 : Int) : Option Int := lt (fun (a2 : Bool) => (if a2 = true then (some 1) else (lt (fun (a3 : Bool) => (if a3 = true then (some 2) else (lt (fun (a4 : Bool) => (if a4 = true then (some 3) else (lt (fun (a5 : Bool) => (if a5 = true then (some 4) else (if a60 = 20 then (some 5) else (lt (fun (a6 : Bool) => (if a6 = true then (some 6) else (some 0))) fun b7 => (if a60 = 23 then (b7 true) else (b7 (decide (a60 = 24)))))))) fun a1 => (if a60 = 15 then (a1 true) else (if a60 = 16 then (a1 true) else (if a60 = 17 then (a1 true) else (a1 (decide (a60 = 22))))))))) fun b6 => (if a60 = 12 then (b6 true) else (b6 (decide (a60 = 13))))))) fun b5 => (if a60 = 10 then (b5 true) else (b5 (decide (a60 = 11))))))) fun b4 => (if a60 = 1 then (b4 true) else (b4 (decide (a60 = 26))))
set_option maxRecDepth 100000 in
theorem confidantref5_Arg.calls {K : Nat} {a60 : Int} {a0 : Int} {B w : World} {os : List Ass} {rs : List Ro} (H : confidantref5_Arg.f K a60 = some a0) (hS : St B w (os) (rs)) :
  Calls Try.prog 24 [.int .i64 a60].toArray w (fun en w' => ∃ v, en = .returned v ∧ v = .int .i64 a0 ∧ St B w' (os) (rs)) := by
 unfold confidantref5_Arg.f at H
 refine calls_of_EW (args := [.int .i64 a60]) (c := Cd24) 23 Try.func24 (by kernel_rfl) (by kernel_rfl) (by kernel_rfl) ?_
 refine EW.seq (x := Cd24.l) (y := Cd24.r) (by kernel_rfl) ?_
 refine EW.region (id := 0) (ops := Cd24.l.ops) (by kernel_rfl) ?_
 refine EL.quick 1 [0] [(0, .int .i64 a60)] (by kernel_rfl) ?_
 refine EL.done (by kernel_rfl) ?_
 refine EQ.code ?_
 refine EW.seq (x := Cd24.r.l) (y := Cd24.r.r) (by kernel_rfl) ?_
 refine EW.seq (x := Cd24.r.l.l) (y := Cd24.r.l.r) (by kernel_rfl) ?_
 refine EW.region (id := 1) (ops := Cd24.r.l.l.ops) (by kernel_rfl) ?_
 refine EL.quick 1 [3] [(3, .int .i64 a60)] (by kernel_rfl) ?_
 refine EL.done (by kernel_rfl) ?_
 refine EQ.code ?_
 refine EW.block (x := Cd24.r.l.r.l) (id := 0) (by kernel_rfl) ?_
 obtain ⟨b4, c4, H⟩ := lt_out H
 refine EW.cut (x := Cd24.r.l.r.l.l) (y := Cd24.r.l.r.l.r) (fun a w => ∃ a2 : Bool, Sat 23 [(3, .int .i64 a60), (4, .bool (a2))] a ∧ St B w (os) (rs) ∧ b4 a2 = some a0) (by kernel_rfl) ?_ (fun a w hI => ?_)
 ·refine EW.seq (x := Cd24.r.l.r.l.l.l) (y := Cd24.r.l.r.l.l.r) (by kernel_rfl) ?_
  refine EW.region (id := 2) (ops := Cd24.r.l.r.l.l.l.ops) (by kernel_rfl) ?_
  refine EL.quick 2 [3, 4] [(3, .int .i64 a60), (4, .bool (decide (a60 = 1)))] (by kernel_rfl) ?_
  refine EL.done (by kernel_rfl) ?_
  refine EQ.code ?_
  refine EW.condP (o := (.tmp 4)) (x := Cd24.r.l.r.l.l.r.l) (y := Cd24.r.l.r.l.l.r.r) (a60 = 1) (by kernel_rfl) (by kernel_rfl) (fun a7 => ?_) (fun a7 => ?_)
  ·rw [if_pos a7] at H
   refine EW.keep [3, 4] [(3, .int .i64 a60), (4, .bool (decide (a60 = 1)))] (by kernel_rfl) ?_
   refine EW.as' [(3, .int .i64 a60), (4, .bool (true))] (by simp only [dec_t a7, Bool.not_true, Bool.not_false]) ?_
   refine EW.skip (by kernel_rfl) ?_
   refine EQ.to ?_
   refine EQ.keep [3, 4] [(3, .int .i64 a60), (4, .bool (true))] (by kernel_rfl) ?_
   exact fun a ha => ⟨true, ha, (hS.re [] [] rfl (sub_self)), H⟩
  ·rw [if_neg a7] at H
   refine EW.region (id := 3) (ops := Cd24.r.l.r.l.l.r.r.ops) (by kernel_rfl) ?_
   refine EL.quick 2 [3, 4] [(3, .int .i64 a60), (4, .bool (decide (a60 = 26)))] (by kernel_rfl) ?_
   refine EL.done (by kernel_rfl) ?_
   refine EQ.to ?_
   refine EQ.keep [3, 4] [(3, .int .i64 a60), (4, .bool (decide (a60 = 26)))] (by kernel_rfl) ?_
   exact fun a ha => ⟨decide (a60 = 26), ha, (hS.re [] [] rfl (sub_self)), H⟩
 ·obtain ⟨a2, ha, hS, H⟩ := hI
  rw [c4] at H
  (try dsimp only at H)
  refine EW.at ?_ a ha
  clear ha a
  refine EW.condP' (o := (.tmp 4)) (x := Cd24.r.l.r.l.r.l) (y := Cd24.r.l.r.l.r.r) (a2) (by kernel_rfl) (by kernel_rfl) (fun b8 => ?_) (fun b8 => ?_)
  ·rw [if_pos b8] at H
   refine EW.seq (x := Cd24.r.l.r.l.r.l.l) (y := Cd24.r.l.r.l.r.l.r) (by kernel_rfl) ?_
   refine EW.region (id := 4) (ops := Cd24.r.l.r.l.r.l.l.ops) (by kernel_rfl) ?_
   refine EL.quick 1 [2] [(2, .int .i64 1)] (by kernel_rfl) ?_
   refine EL.done (by kernel_rfl) ?_
   refine EQ.code ?_
   refine EW.ret (by kernel_rfl) ?_
   refine EQ.ret ?_
   refine EQ.ret ?_
   obtain rfl := Option.some.inj H
   exact EQ.leave (.int .i64 1) (by kernel_rfl) ⟨_, rfl, rfl, (hS.re [] [] rfl (sub_self))⟩
  ·rw [if_neg b8] at H
   obtain ⟨b5, c5, H⟩ := lt_out H
   refine EW.cut (x := Cd24.r.l.r.l.r.r.l) (y := Cd24.r.l.r.l.r.r.r) (fun a w => ∃ a3 : Bool, Sat 23 [(3, .int .i64 a60), (7, .bool (a3))] a ∧ St B w (os) (rs) ∧ b5 a3 = some a0) (by kernel_rfl) ?_ (fun a w hI => ?_)
   ·refine EW.seq (x := Cd24.r.l.r.l.r.r.l.l) (y := Cd24.r.l.r.l.r.r.l.r) (by kernel_rfl) ?_
    refine EW.region (id := 5) (ops := Cd24.r.l.r.l.r.r.l.l.ops) (by kernel_rfl) ?_
    refine EL.quick 2 [3, 7] [(3, .int .i64 a60), (7, .bool (decide (a60 = 10)))] (by kernel_rfl) ?_
    refine EL.done (by kernel_rfl) ?_
    refine EQ.code ?_
    refine EW.condP (o := (.tmp 7)) (x := Cd24.r.l.r.l.r.r.l.r.l) (y := Cd24.r.l.r.l.r.r.l.r.r) (a60 = 10) (by kernel_rfl) (by kernel_rfl) (fun a8 => ?_) (fun a8 => ?_)
    ·rw [if_pos a8] at H
     refine EW.keep [3, 7] [(3, .int .i64 a60), (7, .bool (decide (a60 = 10)))] (by kernel_rfl) ?_
     refine EW.as' [(3, .int .i64 a60), (7, .bool (true))] (by simp only [dec_t a8, Bool.not_true, Bool.not_false]) ?_
     refine EW.skip (by kernel_rfl) ?_
     refine EQ.to ?_
     refine EQ.keep [3, 7] [(3, .int .i64 a60), (7, .bool (true))] (by kernel_rfl) ?_
     exact fun a ha => ⟨true, ha, (hS.re [] [] rfl (sub_self)), H⟩
    ·rw [if_neg a8] at H
     refine EW.region (id := 6) (ops := Cd24.r.l.r.l.r.r.l.r.r.ops) (by kernel_rfl) ?_
     refine EL.quick 2 [3, 7] [(3, .int .i64 a60), (7, .bool (decide (a60 = 11)))] (by kernel_rfl) ?_
     refine EL.done (by kernel_rfl) ?_
     refine EQ.to ?_
     refine EQ.keep [3, 7] [(3, .int .i64 a60), (7, .bool (decide (a60 = 11)))] (by kernel_rfl) ?_
     exact fun a ha => ⟨decide (a60 = 11), ha, (hS.re [] [] rfl (sub_self)), H⟩
   ·obtain ⟨a3, ha, hS, H⟩ := hI
    rw [c5] at H
    (try dsimp only at H)
    refine EW.at ?_ a ha
    clear ha a
    refine EW.condP' (o := (.tmp 7)) (x := Cd24.r.l.r.l.r.r.r.l) (y := Cd24.r.l.r.l.r.r.r.r) (a3) (by kernel_rfl) (by kernel_rfl) (fun b9 => ?_) (fun b9 => ?_)
    ·rw [if_pos b9] at H
     refine EW.seq (x := Cd24.r.l.r.l.r.r.r.l.l) (y := Cd24.r.l.r.l.r.r.r.l.r) (by kernel_rfl) ?_
     refine EW.region (id := 7) (ops := Cd24.r.l.r.l.r.r.r.l.l.ops) (by kernel_rfl) ?_
     refine EL.quick 1 [2] [(2, .int .i64 2)] (by kernel_rfl) ?_
     refine EL.done (by kernel_rfl) ?_
     refine EQ.code ?_
     refine EW.ret (by kernel_rfl) ?_
     refine EQ.ret ?_
     refine EQ.ret ?_
     obtain rfl := Option.some.inj H
     exact EQ.leave (.int .i64 2) (by kernel_rfl) ⟨_, rfl, rfl, (hS.re [] [] rfl (sub_self))⟩
    ·rw [if_neg b9] at H
     obtain ⟨b6, c6, H⟩ := lt_out H
     refine EW.cut (x := Cd24.r.l.r.l.r.r.r.r.l) (y := Cd24.r.l.r.l.r.r.r.r.r) (fun a w => ∃ a4 : Bool, Sat 23 [(3, .int .i64 a60), (10, .bool (a4))] a ∧ St B w (os) (rs) ∧ b6 a4 = some a0) (by kernel_rfl) ?_ (fun a w hI => ?_)
     ·refine EW.seq (x := Cd24.r.l.r.l.r.r.r.r.l.l) (y := Cd24.r.l.r.l.r.r.r.r.l.r) (by kernel_rfl) ?_
      refine EW.region (id := 8) (ops := Cd24.r.l.r.l.r.r.r.r.l.l.ops) (by kernel_rfl) ?_
      refine EL.quick 2 [3, 10] [(3, .int .i64 a60), (10, .bool (decide (a60 = 12)))] (by kernel_rfl) ?_
      refine EL.done (by kernel_rfl) ?_
      refine EQ.code ?_
      refine EW.condP (o := (.tmp 10)) (x := Cd24.r.l.r.l.r.r.r.r.l.r.l) (y := Cd24.r.l.r.l.r.r.r.r.l.r.r) (a60 = 12) (by kernel_rfl) (by kernel_rfl) (fun a9 => ?_) (fun a9 => ?_)
      ·rw [if_pos a9] at H
       refine EW.keep [3, 10] [(3, .int .i64 a60), (10, .bool (decide (a60 = 12)))] (by kernel_rfl) ?_
       refine EW.as' [(3, .int .i64 a60), (10, .bool (true))] (by simp only [dec_t a9, Bool.not_true, Bool.not_false]) ?_
       refine EW.skip (by kernel_rfl) ?_
       refine EQ.to ?_
       refine EQ.keep [3, 10] [(3, .int .i64 a60), (10, .bool (true))] (by kernel_rfl) ?_
       exact fun a ha => ⟨true, ha, (hS.re [] [] rfl (sub_self)), H⟩
      ·rw [if_neg a9] at H
       refine EW.region (id := 9) (ops := Cd24.r.l.r.l.r.r.r.r.l.r.r.ops) (by kernel_rfl) ?_
       refine EL.quick 2 [3, 10] [(3, .int .i64 a60), (10, .bool (decide (a60 = 13)))] (by kernel_rfl) ?_
       refine EL.done (by kernel_rfl) ?_
       refine EQ.to ?_
       refine EQ.keep [3, 10] [(3, .int .i64 a60), (10, .bool (decide (a60 = 13)))] (by kernel_rfl) ?_
       exact fun a ha => ⟨decide (a60 = 13), ha, (hS.re [] [] rfl (sub_self)), H⟩
     ·obtain ⟨a4, ha, hS, H⟩ := hI
      rw [c6] at H
      (try dsimp only at H)
      refine EW.at ?_ a ha
      clear ha a
      refine EW.condP' (o := (.tmp 10)) (x := Cd24.r.l.r.l.r.r.r.r.r.l) (y := Cd24.r.l.r.l.r.r.r.r.r.r) (a4) (by kernel_rfl) (by kernel_rfl) (fun c0 => ?_) (fun c0 => ?_)
      ·rw [if_pos c0] at H
       refine EW.seq (x := Cd24.r.l.r.l.r.r.r.r.r.l.l) (y := Cd24.r.l.r.l.r.r.r.r.r.l.r) (by kernel_rfl) ?_
       refine EW.region (id := 10) (ops := Cd24.r.l.r.l.r.r.r.r.r.l.l.ops) (by kernel_rfl) ?_
       refine EL.quick 1 [2] [(2, .int .i64 3)] (by kernel_rfl) ?_
       refine EL.done (by kernel_rfl) ?_
       refine EQ.code ?_
       refine EW.ret (by kernel_rfl) ?_
       refine EQ.ret ?_
       refine EQ.ret ?_
       obtain rfl := Option.some.inj H
       exact EQ.leave (.int .i64 3) (by kernel_rfl) ⟨_, rfl, rfl, (hS.re [] [] rfl (sub_self))⟩
      ·rw [if_neg c0] at H
       obtain ⟨a1, c7, H⟩ := lt_out H
       refine EW.cut (x := Cd24.r.l.r.l.r.r.r.r.r.r.l) (y := Cd24.r.l.r.l.r.r.r.r.r.r.r) (fun a w => ∃ a5 : Bool, Sat 23 [(3, .int .i64 a60), (13, .bool (a5))] a ∧ St B w (os) (rs) ∧ a1 a5 = some a0) (by kernel_rfl) ?_ (fun a w hI => ?_)
       ·refine EW.seq (x := Cd24.r.l.r.l.r.r.r.r.r.r.l.l) (y := Cd24.r.l.r.l.r.r.r.r.r.r.l.r) (by kernel_rfl) ?_
        refine EW.region (id := 11) (ops := Cd24.r.l.r.l.r.r.r.r.r.r.l.l.ops) (by kernel_rfl) ?_
        refine EL.quick 2 [3, 13] [(3, .int .i64 a60), (13, .bool (decide (a60 = 15)))] (by kernel_rfl) ?_
        refine EL.done (by kernel_rfl) ?_
        refine EQ.code ?_
        refine EW.condP (o := (.tmp 13)) (x := Cd24.r.l.r.l.r.r.r.r.r.r.l.r.l) (y := Cd24.r.l.r.l.r.r.r.r.r.r.l.r.r) (a60 = 15) (by kernel_rfl) (by kernel_rfl) (fun b0 => ?_) (fun b0 => ?_)
        ·rw [if_pos b0] at H
         refine EW.keep [3, 13] [(3, .int .i64 a60), (13, .bool (decide (a60 = 15)))] (by kernel_rfl) ?_
         refine EW.as' [(3, .int .i64 a60), (13, .bool (true))] (by simp only [dec_t b0, Bool.not_true, Bool.not_false]) ?_
         refine EW.skip (by kernel_rfl) ?_
         refine EQ.to ?_
         refine EQ.keep [3, 13] [(3, .int .i64 a60), (13, .bool (true))] (by kernel_rfl) ?_
         exact fun a ha => ⟨true, ha, (hS.re [] [] rfl (sub_self)), H⟩
        ·rw [if_neg b0] at H
         refine EW.seq (x := Cd24.r.l.r.l.r.r.r.r.r.r.l.r.r.l) (y := Cd24.r.l.r.l.r.r.r.r.r.r.l.r.r.r) (by kernel_rfl) ?_
         refine EW.region (id := 12) (ops := Cd24.r.l.r.l.r.r.r.r.r.r.l.r.r.l.ops) (by kernel_rfl) ?_
         refine EL.quick 2 [3, 13] [(3, .int .i64 a60), (13, .bool (decide (a60 = 16)))] (by kernel_rfl) ?_
         refine EL.done (by kernel_rfl) ?_
         refine EQ.code ?_
         refine EW.condP (o := (.tmp 13)) (x := Cd24.r.l.r.l.r.r.r.r.r.r.l.r.r.r.l) (y := Cd24.r.l.r.l.r.r.r.r.r.r.l.r.r.r.r) (a60 = 16) (by kernel_rfl) (by kernel_rfl) (fun b1 => ?_) (fun b1 => ?_)
         ·rw [if_pos b1] at H
          refine EW.keep [3, 13] [(3, .int .i64 a60), (13, .bool (decide (a60 = 16)))] (by kernel_rfl) ?_
          refine EW.as' [(3, .int .i64 a60), (13, .bool (true))] (by simp only [dec_t b1, Bool.not_true, Bool.not_false]) ?_
          refine EW.skip (by kernel_rfl) ?_
          refine EQ.to ?_
          refine EQ.keep [3, 13] [(3, .int .i64 a60), (13, .bool (true))] (by kernel_rfl) ?_
          exact fun a ha => ⟨true, ha, (hS.re [] [] rfl (sub_self)), H⟩
         ·rw [if_neg b1] at H
          refine EW.seq (x := Cd24.r.l.r.l.r.r.r.r.r.r.l.r.r.r.r.l) (y := Cd24.r.l.r.l.r.r.r.r.r.r.l.r.r.r.r.r) (by kernel_rfl) ?_
          refine EW.region (id := 13) (ops := Cd24.r.l.r.l.r.r.r.r.r.r.l.r.r.r.r.l.ops) (by kernel_rfl) ?_
          refine EL.quick 2 [3, 13] [(3, .int .i64 a60), (13, .bool (decide (a60 = 17)))] (by kernel_rfl) ?_
          refine EL.done (by kernel_rfl) ?_
          refine EQ.code ?_
          refine EW.condP (o := (.tmp 13)) (x := Cd24.r.l.r.l.r.r.r.r.r.r.l.r.r.r.r.r.l) (y := Cd24.r.l.r.l.r.r.r.r.r.r.l.r.r.r.r.r.r) (a60 = 17) (by kernel_rfl) (by kernel_rfl) (fun b2 => ?_) (fun b2 => ?_)
          ·rw [if_pos b2] at H
           refine EW.keep [3, 13] [(3, .int .i64 a60), (13, .bool (decide (a60 = 17)))] (by kernel_rfl) ?_
           refine EW.as' [(3, .int .i64 a60), (13, .bool (true))] (by simp only [dec_t b2, Bool.not_true, Bool.not_false]) ?_
           refine EW.skip (by kernel_rfl) ?_
           refine EQ.to ?_
           refine EQ.keep [3, 13] [(3, .int .i64 a60), (13, .bool (true))] (by kernel_rfl) ?_
           exact fun a ha => ⟨true, ha, (hS.re [] [] rfl (sub_self)), H⟩
          ·rw [if_neg b2] at H
           refine EW.region (id := 14) (ops := Cd24.r.l.r.l.r.r.r.r.r.r.l.r.r.r.r.r.r.ops) (by kernel_rfl) ?_
           refine EL.quick 2 [3, 13] [(3, .int .i64 a60), (13, .bool (decide (a60 = 22)))] (by kernel_rfl) ?_
           refine EL.done (by kernel_rfl) ?_
           refine EQ.to ?_
           refine EQ.keep [3, 13] [(3, .int .i64 a60), (13, .bool (decide (a60 = 22)))] (by kernel_rfl) ?_
           exact fun a ha => ⟨decide (a60 = 22), ha, (hS.re [] [] rfl (sub_self)), H⟩
       ·obtain ⟨a5, ha, hS, H⟩ := hI
        rw [c7] at H
        (try dsimp only at H)
        refine EW.at ?_ a ha
        clear ha a
        refine EW.condP' (o := (.tmp 13)) (x := Cd24.r.l.r.l.r.r.r.r.r.r.r.l) (y := Cd24.r.l.r.l.r.r.r.r.r.r.r.r) (a5) (by kernel_rfl) (by kernel_rfl) (fun c1 => ?_) (fun c1 => ?_)
        ·rw [if_pos c1] at H
         refine EW.seq (x := Cd24.r.l.r.l.r.r.r.r.r.r.r.l.l) (y := Cd24.r.l.r.l.r.r.r.r.r.r.r.l.r) (by kernel_rfl) ?_
         refine EW.region (id := 15) (ops := Cd24.r.l.r.l.r.r.r.r.r.r.r.l.l.ops) (by kernel_rfl) ?_
         refine EL.quick 1 [2] [(2, .int .i64 4)] (by kernel_rfl) ?_
         refine EL.done (by kernel_rfl) ?_
         refine EQ.code ?_
         refine EW.ret (by kernel_rfl) ?_
         refine EQ.ret ?_
         refine EQ.ret ?_
         obtain rfl := Option.some.inj H
         exact EQ.leave (.int .i64 4) (by kernel_rfl) ⟨_, rfl, rfl, (hS.re [] [] rfl (sub_self))⟩
        ·rw [if_neg c1] at H
         refine EW.seq (x := Cd24.r.l.r.l.r.r.r.r.r.r.r.r.l) (y := Cd24.r.l.r.l.r.r.r.r.r.r.r.r.r) (by kernel_rfl) ?_
         refine EW.region (id := 16) (ops := Cd24.r.l.r.l.r.r.r.r.r.r.r.r.l.ops) (by kernel_rfl) ?_
         refine EL.quick 2 [3, 18] [(3, .int .i64 a60), (18, .bool (decide (a60 = 20)))] (by kernel_rfl) ?_
         refine EL.done (by kernel_rfl) ?_
         refine EQ.code ?_
         refine EW.condP (o := (.tmp 18)) (x := Cd24.r.l.r.l.r.r.r.r.r.r.r.r.r.l) (y := Cd24.r.l.r.l.r.r.r.r.r.r.r.r.r.r) (a60 = 20) (by kernel_rfl) (by kernel_rfl) (fun c2 => ?_) (fun c2 => ?_)
         ·rw [if_pos c2] at H
          refine EW.seq (x := Cd24.r.l.r.l.r.r.r.r.r.r.r.r.r.l.l) (y := Cd24.r.l.r.l.r.r.r.r.r.r.r.r.r.l.r) (by kernel_rfl) ?_
          refine EW.region (id := 17) (ops := Cd24.r.l.r.l.r.r.r.r.r.r.r.r.r.l.l.ops) (by kernel_rfl) ?_
          refine EL.quick 1 [2] [(2, .int .i64 5)] (by kernel_rfl) ?_
          refine EL.done (by kernel_rfl) ?_
          refine EQ.code ?_
          refine EW.ret (by kernel_rfl) ?_
          refine EQ.ret ?_
          refine EQ.ret ?_
          obtain rfl := Option.some.inj H
          exact EQ.leave (.int .i64 5) (by kernel_rfl) ⟨_, rfl, rfl, (hS.re [] [] rfl (sub_self))⟩
         ·rw [if_neg c2] at H
          obtain ⟨b7, c8, H⟩ := lt_out H
          refine EW.cut (x := Cd24.r.l.r.l.r.r.r.r.r.r.r.r.r.r.l) (y := Cd24.r.l.r.l.r.r.r.r.r.r.r.r.r.r.r) (fun a w => ∃ a6 : Bool, Sat 23 [(20, .bool (a6))] a ∧ St B w (os) (rs) ∧ b7 a6 = some a0) (by kernel_rfl) ?_ (fun a w hI => ?_)
          ·refine EW.seq (x := Cd24.r.l.r.l.r.r.r.r.r.r.r.r.r.r.l.l) (y := Cd24.r.l.r.l.r.r.r.r.r.r.r.r.r.r.l.r) (by kernel_rfl) ?_
           refine EW.region (id := 18) (ops := Cd24.r.l.r.l.r.r.r.r.r.r.r.r.r.r.l.l.ops) (by kernel_rfl) ?_
           refine EL.quick 2 [3, 20] [(3, .int .i64 a60), (20, .bool (decide (a60 = 23)))] (by kernel_rfl) ?_
           refine EL.done (by kernel_rfl) ?_
           refine EQ.code ?_
           refine EW.condP (o := (.tmp 20)) (x := Cd24.r.l.r.l.r.r.r.r.r.r.r.r.r.r.l.r.l) (y := Cd24.r.l.r.l.r.r.r.r.r.r.r.r.r.r.l.r.r) (a60 = 23) (by kernel_rfl) (by kernel_rfl) (fun b3 => ?_) (fun b3 => ?_)
           ·rw [if_pos b3] at H
            refine EW.keep [20] [(20, .bool (decide (a60 = 23)))] (by kernel_rfl) ?_
            refine EW.as' [(20, .bool (true))] (by simp only [dec_t b3, Bool.not_true, Bool.not_false]) ?_
            refine EW.skip (by kernel_rfl) ?_
            refine EQ.to ?_
            refine EQ.keep [20] [(20, .bool (true))] (by kernel_rfl) ?_
            exact fun a ha => ⟨true, ha, (hS.re [] [] rfl (sub_self)), H⟩
           ·rw [if_neg b3] at H
            refine EW.region (id := 19) (ops := Cd24.r.l.r.l.r.r.r.r.r.r.r.r.r.r.l.r.r.ops) (by kernel_rfl) ?_
            refine EL.quick 2 [20] [(20, .bool (decide (a60 = 24)))] (by kernel_rfl) ?_
            refine EL.done (by kernel_rfl) ?_
            refine EQ.to ?_
            refine EQ.keep [20] [(20, .bool (decide (a60 = 24)))] (by kernel_rfl) ?_
            exact fun a ha => ⟨decide (a60 = 24), ha, (hS.re [] [] rfl (sub_self)), H⟩
          ·obtain ⟨a6, ha, hS, H⟩ := hI
           rw [c8] at H
           (try dsimp only at H)
           refine EW.at ?_ a ha
           clear ha a
           refine EW.condP' (o := (.tmp 20)) (x := Cd24.r.l.r.l.r.r.r.r.r.r.r.r.r.r.r.l) (y := Cd24.r.l.r.l.r.r.r.r.r.r.r.r.r.r.r.r) (a6) (by kernel_rfl) (by kernel_rfl) (fun c3 => ?_) (fun c3 => ?_)
           ·rw [if_pos c3] at H
            refine EW.seq (x := Cd24.r.l.r.l.r.r.r.r.r.r.r.r.r.r.r.l.l) (y := Cd24.r.l.r.l.r.r.r.r.r.r.r.r.r.r.r.l.r) (by kernel_rfl) ?_
            refine EW.region (id := 20) (ops := Cd24.r.l.r.l.r.r.r.r.r.r.r.r.r.r.r.l.l.ops) (by kernel_rfl) ?_
            refine EL.quick 1 [2] [(2, .int .i64 6)] (by kernel_rfl) ?_
            refine EL.done (by kernel_rfl) ?_
            refine EQ.code ?_
            refine EW.ret (by kernel_rfl) ?_
            refine EQ.ret ?_
            refine EQ.ret ?_
            obtain rfl := Option.some.inj H
            exact EQ.leave (.int .i64 6) (by kernel_rfl) ⟨_, rfl, rfl, (hS.re [] [] rfl (sub_self))⟩
           ·rw [if_neg c3] at H
            refine EW.skip (by kernel_rfl) ?_
            refine EQ.pop ?_
            refine EQ.code ?_
            refine EW.seq (x := Cd24.r.r.l) (y := Cd24.r.r.r) (by kernel_rfl) ?_
            refine EW.region (id := 21) (ops := Cd24.r.r.l.ops) (by kernel_rfl) ?_
            refine EL.quick 1 [2] [(2, .int .i64 0)] (by kernel_rfl) ?_
            refine EL.done (by kernel_rfl) ?_
            refine EQ.code ?_
            refine EW.ret (by kernel_rfl) ?_
            obtain rfl := Option.some.inj H
            exact EQ.leave (.int .i64 0) (by kernel_rfl) ⟨_, rfl, rfl, (hS.re [] [] rfl (sub_self))⟩

/-! ### confidant/confidantseat.in: function 41 -/
def confidantseat_in.f (K : Nat) (a0 : Int) (a1 : Int) : Option (Int × Int) := some (a0, IntKind.i32.wrap a1)
set_option maxRecDepth 100000 in
theorem confidantseat_in.calls {K : Nat} {a0 : Int} {a1 : Int} {a3 : Int} {a4 : Int} {B w : World} {os : List Ass} {rs : List Ro} (H : confidantseat_in.f K a0 a1 = some (a3, a4)) (hS : St B w (os) (rs)) :
  Calls Try.prog 41 [.int .i64 a0, .int .i64 a1].toArray w (fun en w' => ∃ v, en = .returned v ∧ v = .agg #[.int .i64 a3, .int .i32 a4] ∧ St B w' (os) (rs)) := by
 unfold confidantseat_in.f at H
 refine calls_of_EW (args := [.int .i64 a0, .int .i64 a1]) (c := Cd41) 9 Try.func41 (by kernel_rfl) (by kernel_rfl) (by kernel_rfl) ?_
 refine EW.seq (x := Cd41.l) (y := Cd41.r) (by kernel_rfl) ?_
 refine EW.region (id := 0) (ops := Cd41.l.ops) (by kernel_rfl) ?_
 refine EL.of (EO.alloc hS 32 (.agg #[.int .i64 0, .int .i32 0]) [.int .i64 0, .int .i32 0] 4 (by kernel_rfl) (by kernel_rfl) (by kernel_rfl) (by kernel_rfl) (by first | rfl | kernel_rfl) ?_)
 intro a2 w hS
 refine EL.done (by kernel_rfl) ?_
 refine EQ.code ?_
 refine EW.seq (x := Cd41.r.l) (y := Cd41.r.r) (by kernel_rfl) ?_
 refine EW.region (id := 1) (ops := Cd41.r.l.ops) (by kernel_rfl) ?_
 refine EL.quick 4 [4, 8] [(4, .pointer (some ⟨a2, 0, none⟩)), (8, .agg #[.int .i64 a0, .int .i32 (IntKind.i32.wrap a1)])] (by kernel_rfl) ?_
 refine EL.of (EO.storeBox (os' := Ass.box 32 a2 [.int .i64 a0, .int .i32 (IntKind.i32.wrap a1)] :: os) hS 0 rfl 32 0 (.agg #[.int .i64 a0, .int .i32 (IntKind.i32.wrap a1)]) [.int .i64 a0, .int .i32 (IntKind.i32.wrap a1)] (by kernel_rfl) (by kernel_rfl) (by kernel_rfl) (by kernel_rfl) (by kernel_rfl) (by kernel_rfl) rfl rfl ?_)
 intro w hS
 refine EL.done (by kernel_rfl) ?_
 refine EQ.code ?_
 refine EW.ret (by kernel_rfl) ?_
 simp only [Option.some.injEq, Prod.mk.injEq] at H
 obtain ⟨rfl, rfl⟩ := H
 exact EQ.leaveC hS 0 rfl 4 32 0 2 (.agg #[.int .i64 a0, .int .i32 (IntKind.i32.wrap a1)]) (by kernel_rfl) (by kernel_rfl) (by kernel_rfl) ⟨_, rfl, rfl, (hS.re [] [0] rfl (sub_self))⟩

/-! ### confidant/confidantseat.Instr: function 23 -/
def confidantseat_Instr.f (K : Nat) (a56 : Int) (a57 : Int) : Option (Int × Int) := b1 (confidantref5_Arg.f K (IntKind.i64.wrap ((Int.tmod (IntKind.i64.wrap a56) 26) + 1))) fun (a5 : Int) => (if a5 = 0 then (b2 (confidantseat_in.f K (IntKind.i64.wrap ((Int.tmod (IntKind.i64.wrap a56) 26) + 1)) 0) fun (a1 : Int) (a2 : Int) => (some (a1, a2))) else (b2 (confidantseat_in.f K (IntKind.i64.wrap ((Int.tmod (IntKind.i64.wrap a56) 26) + 1)) (IntKind.i64.wrap (Int.tmod a57 12))) fun (a3 : Int) (a4 : Int) => (some (a3, a4))))
set_option maxRecDepth 100000 in
theorem confidantseat_Instr.calls {K : Nat} {a56 : Int} {a57 : Int} {a7 : Int} {a8 : Int} {B w : World} {os : List Ass} {rs : List Ro} (H : confidantseat_Instr.f K a56 a57 = some (a7, a8)) (hS : St B w (os) (rs)) :
  Calls Try.prog 23 [.int .u8 a56, .int .u8 a57].toArray w (fun en w' => ∃ v, en = .returned v ∧ v = .agg #[.int .i64 a7, .int .i32 a8] ∧ St B w' (os) (rs)) := by
 unfold confidantseat_Instr.f at H
 refine calls_of_EW (args := [.int .u8 a56, .int .u8 a57]) (c := Cd23) 20 Try.func23 (by kernel_rfl) (by kernel_rfl) (by kernel_rfl) ?_
 refine EW.seq (x := Cd23.l) (y := Cd23.r) (by kernel_rfl) ?_
 refine EW.region (id := 0) (ops := Cd23.l.ops) (by kernel_rfl) ?_
 refine EL.of (EO.alloc hS 32 (.agg #[.int .i64 0, .int .i32 0]) [.int .i64 0, .int .i32 0] 4 (by kernel_rfl) (by kernel_rfl) (by kernel_rfl) (by kernel_rfl) (by first | rfl | kernel_rfl) ?_)
 intro a0 w hS
 refine EL.done (by kernel_rfl) ?_
 refine EQ.code ?_
 refine EW.seq (x := Cd23.r.l) (y := Cd23.r.r) (by kernel_rfl) ?_
 refine EW.region (id := 1) (ops := Cd23.r.l.ops) (by kernel_rfl) ?_
 refine EL.quick 5 [1, 4, 5] [(1, .int .u8 a57), (4, .pointer (some ⟨a0, 0, none⟩)), (5, .int .i64 (IntKind.i64.wrap ((Int.tmod (IntKind.i64.wrap a56) 26) + 1)))] (by kernel_rfl) ?_
 refine EL.done (by kernel_rfl) ?_
 refine EQ.code ?_
 refine EW.seq (x := Cd23.r.r.l) (y := Cd23.r.r.r) (by kernel_rfl) ?_
 refine EW.seq (x := Cd23.r.r.l.l) (y := Cd23.r.r.l.r) (by kernel_rfl) ?_
 refine EW.region (id := 2) (ops := Cd23.r.r.l.l.ops) (by kernel_rfl) ?_
 refine EL.quick 1 [1, 4, 5, 10] [(1, .int .u8 a57), (4, .pointer (some ⟨a0, 0, none⟩)), (5, .int .i64 (IntKind.i64.wrap ((Int.tmod (IntKind.i64.wrap a56) 26) + 1))), (10, .int .i64 (IntKind.i64.wrap ((Int.tmod (IntKind.i64.wrap a56) 26) + 1)))] (by kernel_rfl) ?_
 obtain ⟨a5, a9, H⟩ := b1_out H
 refine EL.of (EO.callD 24 [.int .i64 (IntKind.i64.wrap ((Int.tmod (IntKind.i64.wrap a56) 26) + 1))] _ 11 (by kernel_rfl) (by kernel_rfl) (by kernel_rfl) (confidantref5_Arg.calls a9 hS) ?_)
 rintro v w ⟨rfl, hS⟩
 refine EL.quick 1 [1, 4, 5, 12] [(1, .int .u8 a57), (4, .pointer (some ⟨a0, 0, none⟩)), (5, .int .i64 (IntKind.i64.wrap ((Int.tmod (IntKind.i64.wrap a56) 26) + 1))), (12, .bool (decide (a5 = 0)))] (by kernel_rfl) ?_
 refine EL.done (by kernel_rfl) ?_
 refine EQ.code ?_
 refine EW.condP (o := (.tmp 12)) (x := Cd23.r.r.l.r.l) (y := Cd23.r.r.l.r.r) (a5 = 0) (by kernel_rfl) (by kernel_rfl) (fun a6 => ?_) (fun a6 => ?_)
 ·rw [if_pos a6] at H
  refine EW.seq (x := Cd23.r.r.l.r.l.l) (y := Cd23.r.r.l.r.l.r) (by kernel_rfl) ?_
  refine EW.region (id := 3) (ops := Cd23.r.r.l.r.l.l.ops) (by kernel_rfl) ?_
  refine EL.quick 1 [4, 13] [(4, .pointer (some ⟨a0, 0, none⟩)), (13, .int .i64 (IntKind.i64.wrap ((Int.tmod (IntKind.i64.wrap a56) 26) + 1)))] (by kernel_rfl) ?_
  obtain ⟨a1, a2, b0, H⟩ := b2_out H
  refine EL.of (EO.callD 41 [.int .i64 (IntKind.i64.wrap ((Int.tmod (IntKind.i64.wrap a56) 26) + 1)), .int .i64 0] _ 14 (by kernel_rfl) (by kernel_rfl) (by kernel_rfl) (confidantseat_in.calls b0 hS) ?_)
  rintro v w ⟨rfl, hS⟩
  refine EL.of (EO.storeBox (os' := Ass.box 32 a0 [.int .i64 a1, .int .i32 a2] :: os) hS 0 rfl 32 0 (.agg #[.int .i64 a1, .int .i32 a2]) [.int .i64 a1, .int .i32 a2] (by kernel_rfl) (by kernel_rfl) (by kernel_rfl) (by kernel_rfl) (by kernel_rfl) (by kernel_rfl) rfl rfl ?_)
  intro w hS
  refine EL.done (by kernel_rfl) ?_
  refine EQ.code ?_
  refine EW.ret (by kernel_rfl) ?_
  refine EQ.ret ?_
  simp only [Option.some.injEq, Prod.mk.injEq] at H
  obtain ⟨rfl, rfl⟩ := H
  exact EQ.leaveC hS 0 rfl 4 32 0 2 (.agg #[.int .i64 a1, .int .i32 a2]) (by kernel_rfl) (by kernel_rfl) (by kernel_rfl) ⟨_, rfl, rfl, (hS.re [] [0] rfl (sub_self))⟩
 ·rw [if_neg a6] at H
  refine EW.skip (by kernel_rfl) ?_
  refine EQ.code ?_
  refine EW.seq (x := Cd23.r.r.r.l) (y := Cd23.r.r.r.r) (by kernel_rfl) ?_
  refine EW.region (id := 4) (ops := Cd23.r.r.r.l.ops) (by kernel_rfl) ?_
  refine EL.quick 4 [4, 15, 18] [(4, .pointer (some ⟨a0, 0, none⟩)), (15, .int .i64 (IntKind.i64.wrap ((Int.tmod (IntKind.i64.wrap a56) 26) + 1))), (18, .int .i64 (IntKind.i64.wrap (Int.tmod a57 12)))] (by kernel_rfl) ?_
  obtain ⟨a3, a4, b3, H⟩ := b2_out H
  refine EL.of (EO.callD 41 [.int .i64 (IntKind.i64.wrap ((Int.tmod (IntKind.i64.wrap a56) 26) + 1)), .int .i64 (IntKind.i64.wrap (Int.tmod a57 12))] _ 19 (by kernel_rfl) (by kernel_rfl) (by kernel_rfl) (confidantseat_in.calls b3 hS) ?_)
  rintro v w ⟨rfl, hS⟩
  refine EL.of (EO.storeBox (os' := Ass.box 32 a0 [.int .i64 a3, .int .i32 a4] :: os) hS 0 rfl 32 0 (.agg #[.int .i64 a3, .int .i32 a4]) [.int .i64 a3, .int .i32 a4] (by kernel_rfl) (by kernel_rfl) (by kernel_rfl) (by kernel_rfl) (by kernel_rfl) (by kernel_rfl) rfl rfl ?_)
  intro w hS
  refine EL.done (by kernel_rfl) ?_
  refine EQ.code ?_
  refine EW.ret (by kernel_rfl) ?_
  simp only [Option.some.injEq, Prod.mk.injEq] at H
  obtain ⟨rfl, rfl⟩ := H
  exact EQ.leaveC hS 0 rfl 4 32 0 2 (.agg #[.int .i64 a3, .int .i32 a4]) (by kernel_rfl) (by kernel_rfl) (by kernel_rfl) ⟨_, rfl, rfl, (hS.re [] [0] rfl (sub_self))⟩

end Go.Proofs.Ytlcnkngpankkpaa.G
