import Derived.Test.YtipaaapbapijhaaProg
import Derived.Test.YtipaaapbapijhaaFwEq
import Derived.Test.YtipaaapbapijhaaFwOpen
import Derived.Test.YtipaaapbapijhaaG0
import Derived.Test.YtipaaapbapijhaaG1
import Derived.Test.YtipaaapbapijhaaG2
import Derived.Test.YtipaaapbapijhaaG3
namespace Go.Proofs.Ytipaaapbapijhaa.G
open Go Go.Fw Go.RowKit Go.Proofs
set_option linter.unusedVariables false
set_option linter.unusedSimpArgs false

/-! ### confidant/confidantlaw20.ParkNobody: function 3 -/
def confidantlaw20_ParkNobody.l0 (K : Nat) (a4 : Int) (t10182 : List Int) (a6 : Int) (j11025 : (List S60) → (List (List S96)) → Option Bool) : Nat → (List S60) → (List (List S96)) → Int → Option Bool
  | 0, _, _, _ => none
  | n + 1, x11164, x11167, x11170 => if x11170 < (IntKind.i64.wrap (Int.tmod a4 17)) then (b3 (future_Futures_Make.f K x11167 t10182 0 0) fun (t11378 : List (List S96)) (t11379 : Int) (t11380 : Bool) => (lt (fun (x11394 : Bool) => (if x11394 = true then (some false) else (lt (fun (x11417 : List (List S96)) => (b1 (park_Park_Add.f K x11164 (IntKind.i32.wrap x11170) 0 0 ([] : List Int) 0 0 0 0 0 0 0 0 t11379) fun (t11429 : List S60) => (confidantlaw20_ParkNobody.l0 K a4 t10182 a6 j11025 n t11429 x11417 (IntKind.i64.wrap (x11170 + 1))))) fun j11420 => (if (Int.tmod x11170 16) < 0 then none else (if (bA .u16 (sR .u16 a6 (Int.tmod x11170 16)) 1) = 1 then (b2 (future_Futures_Keep.f K t11378 t10182 t11379 3) fun (t11424 : List (List S96)) (t11425 : Bool) => (j11420 t11424)) else (j11420 t11378)))))) fun j11395 => (if t11380 = true then (j11395 false) else (j11395 (decide (x11170 < 16)))))) else (j11025 x11164 x11167)
def confidantlaw20_ParkNobody.f (K : Nat) (a4 : Int) (a5 : Int) (a6 : Int) : Option Bool := b1 (confidantlaw20_known.f K) fun (t10166 : Bool) => (if t10166 = true then (lt ([16] : List Int) fun l10180 => (b2 (future_New.f K l10180) fun (t10181 : List (List S96)) (t10182 : List Int) => (b1 (park_New.f K) fun (t10194 : List S60) => (lt (fun (x11019 : List S60) (x11022 : List (List S96)) => (b4 (park_Park_Look.f K x11019 x11022 t10182 (IntKind.i64.wrap (Int.tmod a5 20))) fun (t11444 : List S60) (t11445 : List S36) (t11446 : List S36) (t11447 : Int) => (b1 (park_Park_Len.f K t11444) fun (t11455 : Int) => (if (IntKind.i64.wrap ((IntKind.i64.wrap ((t11445.length : Int) + (t11446.length : Int))) + t11455)) = (IntKind.i64.wrap (Int.tmod a4 17)) then (if t11447 = (IntKind.i64.wrap ((IntKind.i64.wrap (Int.tmod a5 20)) - (mn (IntKind.i64.wrap (Int.tmod a4 17)) (IntKind.i64.wrap (Int.tmod a5 20))))) then (some (decide ((t11446.length : Int) = (mx (IntKind.i64.wrap ((IntKind.i64.wrap (Int.tmod a4 17)) - (IntKind.i64.wrap (Int.tmod a5 20)))) 0)))) else (some false)) else (some false))))) fun j11025 => (confidantlaw20_ParkNobody.l0 K a4 t10182 a6 j11025 K t10194 t10181 0))))) else (some false))
set_option maxRecDepth 100000 in
theorem confidantlaw20_ParkNobody.calls {K : Nat} {a4 : Int} {a5 : Int} {a6 : Int} {x10158 : Bool} {B w : World} {os : List Ass} {rs : List Ro} (H : confidantlaw20_ParkNobody.f K a4 a5 a6 = some x10158) (hS : St B w (os) (rs)) :
    Calls Try.prog 3 [.int .u8 a4, .int .u8 a5, .int .u16 a6].toArray w (fun en w' => ∃ v, en = .returned v ∧ v = .bool (x10158) ∧ St B w' (os) (rs)) := by
  unfold confidantlaw20_ParkNobody.f at H
  refine calls_of_EW (args := [.int .u8 a4, .int .u8 a5, .int .u16 a6]) (c := Cd3) 99 Try.func3 (by kernel_rfl) (by kernel_rfl) (by kernel_rfl) ?_
  refine EW.seq (x := Cd3.l) (y := Cd3.r) (by kernel_rfl) ?_
  refine EW.region (id := 0) (ops := Cd3.l.ops) (by kernel_rfl) ?_
  refine EL.quick 1 [0, 1, 2] [(0, .int .u8 a4), (1, .int .u8 a5), (2, .int .u16 a6)] (by kernel_rfl) ?_
  refine EL.done (by kernel_rfl) ?_
  refine EQ.code ?_
  refine EW.seq (x := Cd3.r.l) (y := Cd3.r.r) (by kernel_rfl) ?_
  refine EW.seq (x := Cd3.r.l.l) (y := Cd3.r.l.r) (by kernel_rfl) ?_
  refine EW.region (id := 1) (ops := Cd3.r.l.l.ops) (by kernel_rfl) ?_
  obtain ⟨t10166, hc10167, H⟩ := b1_out H
  refine EL.of (EO.callD 10 [] _ 16 (by kernel_rfl) (by kernel_rfl) (by kernel_rfl) (confidantlaw20_known.calls hc10167 hS) ?_)
  rintro v w ⟨rfl, hS⟩
  refine EL.quick 1 [0, 1, 2, 17] [(0, .int .u8 a4), (1, .int .u8 a5), (2, .int .u16 a6), (17, .bool (!(t10166)))] (by kernel_rfl) ?_
  refine EL.done (by kernel_rfl) ?_
  refine EQ.code ?_
  refine EW.condQ (b := !(t10166)) (o := (.tmp 17)) (x := Cd3.r.l.r.l) (y := Cd3.r.l.r.r) (t10166 = true) (false) (by kernel_rfl) (by kernel_rfl) ⟨fun h => (by rw [h] <;> rfl), fun h => (by rw [Bool.eq_false_iff.2 h] <;> rfl)⟩ (fun h10168 => ?_) (fun h10168 => ?_)
  · rw [if_pos h10168] at H
    refine EW.skip (by kernel_rfl) ?_
    refine EQ.code ?_
    refine EW.seq (x := Cd3.r.r.l) (y := Cd3.r.r.r) (by kernel_rfl) ?_
    refine EW.region (id := 3) (ops := Cd3.r.r.l.ops) (by kernel_rfl) ?_
    obtain ⟨l10180, hl10180, H⟩ := lt_out H
    refine EL.of (EO.lit hS (Kd.int .i64) 3 66 1 #[(0, .int .i64 16)] [.int .i64 16] l10180 18 (by kernel_rfl) (by kernel_rfl) (by kernel_rfl) (fun _ => (by kernel_rfl)) (by rw [hl10180]; rfl) (by kernel_rfl) (fun w G hr => (by rw [hl10180]; exact ⟨[.int .i64 16], [], rfl, rfl, rfl⟩)) ?_)
    intro g10179 w hS
    have hS := St.fr hS 0 rfl
    have hS : St B _ (os) (Ro.sl (Kd.int .i64) (some ⟨g10179, 0, none⟩) 1 l10180 :: Ro.sl (Kd.int .i64) (some ⟨g10179, 0, none⟩) 1 l10180 :: rs) := hS.re [] [] rfl (sub_cons 0 rfl sub_self)
    obtain ⟨t10181, t10182, hc10188, H⟩ := b2_out H
    refine EL.of (EO.callD 11 [.slice (some ⟨g10179, 0, none⟩) l10180.length 1] _ 19 (by kernel_rfl) (by kernel_rfl) (by kernel_rfl) (future_New.calls hc10188 hS) ?_)
    rintro v w ⟨g10183, A10184, C10185, A10186, C10187, rfl, hS⟩
    refine EL.quick 1 [0, 1, 2, 7] [(0, .int .u8 a4), (1, .int .u8 a5), (2, .int .u16 a6), (7, .pointer (some ⟨g10183, 0, none⟩))] (by kernel_rfl) ?_
    refine EL.done (by kernel_rfl) ?_
    refine EQ.code ?_
    refine EW.seq (x := Cd3.r.r.r.l) (y := Cd3.r.r.r.r) (by kernel_rfl) ?_
    refine EW.region (id := 4) (ops := Cd3.r.r.r.l.ops) (by kernel_rfl) ?_
    obtain ⟨t10194, hc10198, H⟩ := b1_out H
    refine EL.of (EO.callD 12 [] _ 20 (by kernel_rfl) (by kernel_rfl) (by kernel_rfl) (park_New.calls hc10198 hS) ?_)
    rintro v w ⟨g10195, A10196, C10197, rfl, hS⟩
    refine EL.quick 1 [0, 1, 2, 7, 8] [(0, .int .u8 a4), (1, .int .u8 a5), (2, .int .u16 a6), (7, .pointer (some ⟨g10183, 0, none⟩)), (8, .pointer (some ⟨g10195, 0, none⟩))] (by kernel_rfl) ?_
    refine EL.done (by kernel_rfl) ?_
    refine EQ.code ?_
    refine EW.seq (x := Cd3.r.r.r.r.l) (y := Cd3.r.r.r.r.r) (by kernel_rfl) ?_
    refine EW.region (id := 5) (ops := Cd3.r.r.r.r.l.ops) (by kernel_rfl) ?_
    refine EL.quick 4 [1, 2, 7, 8, 9] [(1, .int .u8 a5), (2, .int .u16 a6), (7, .pointer (some ⟨g10183, 0, none⟩)), (8, .pointer (some ⟨g10195, 0, none⟩)), (9, .int .i64 (IntKind.i64.wrap (Int.tmod a4 17)))] (by kernel_rfl) ?_
    refine EL.done (by kernel_rfl) ?_
    refine EQ.code ?_
    obtain ⟨j11025, hj11025, H⟩ := lt_out H
    refine EW.cut (x := Cd3.r.r.r.r.r.l) (y := Cd3.r.r.r.r.r.r) (fun a w => ∃ x11019 : List S60, ∃ x11022 : List (List S96), ∃ A11020 : Option Addr, ∃ C11021 : Nat, ∃ A11023 : Option Addr, ∃ C11024 : Nat, Sat 99 [(1, .int .u8 a5), (7, .pointer (some ⟨g10183, 0, none⟩)), (8, .pointer (some ⟨g10195, 0, none⟩)), (9, .int .i64 (IntKind.i64.wrap (Int.tmod a4 17)))] a ∧ St B w (Ass.box 93 g10195 [.slice A11020 x11019.length C11021] :: Ass.own 60 kS60 A11020 C11021 x11019 :: Ass.box 91 g10183 [.slice A11023 x11022.length C11024, .slice A10186 t10182.length C10187] :: Ass.deep 94 96 kS96 A11023 C11024 x11022 :: Ass.own 3 (Kd.int .i64) A10186 C10187 t10182 :: os) (Ro.sl (Kd.int .i64) (some ⟨g10179, 0, none⟩) 1 l10180 :: Ro.sl (Kd.int .i64) (some ⟨g10179, 0, none⟩) 1 l10180 :: rs) ∧ j11025 x11019 x11022 = some x10158) (by kernel_rfl) ?_ (fun a w hI => ?_)
    · refine EW.seq (x := Cd3.r.r.r.r.r.l.l) (y := Cd3.r.r.r.r.r.l.r) (by kernel_rfl) ?_
      refine EW.region (id := 6) (ops := Cd3.r.r.r.r.r.l.l.ops) (by kernel_rfl) ?_
      refine EL.quick 1 [1, 2, 7, 8, 9, 10] [(1, .int .u8 a5), (2, .int .u16 a6), (7, .pointer (some ⟨g10183, 0, none⟩)), (8, .pointer (some ⟨g10195, 0, none⟩)), (9, .int .i64 (IntKind.i64.wrap (Int.tmod a4 17))), (10, .int .i64 0)] (by kernel_rfl) ?_
      refine EL.done (by kernel_rfl) ?_
      refine EQ.code ?_
      refine EW.block (x := Cd3.r.r.r.r.r.l.r.l) (id := 0) (by kernel_rfl) ?_
      refine EW.loop (x := Cd3.r.r.r.r.r.l.r.l.l) (fun n a w => ∃ x11164 : List S60, ∃ x11167 : List (List S96), ∃ x11170 : Int, ∃ A11165 : Option Addr, ∃ C11166 : Nat, ∃ A11168 : Option Addr, ∃ C11169 : Nat, Sat 99 [(1, .int .u8 a5), (2, .int .u16 a6), (7, .pointer (some ⟨g10183, 0, none⟩)), (8, .pointer (some ⟨g10195, 0, none⟩)), (9, .int .i64 (IntKind.i64.wrap (Int.tmod a4 17))), (10, .int .i64 x11170)] a ∧ St B w (Ass.box 93 g10195 [.slice A11165 x11164.length C11166] :: Ass.own 60 kS60 A11165 C11166 x11164 :: Ass.box 91 g10183 [.slice A11168 x11167.length C11169, .slice A10186 t10182.length C10187] :: Ass.deep 94 96 kS96 A11168 C11169 x11167 :: Ass.own 3 (Kd.int .i64) A10186 C10187 t10182 :: os) (Ro.sl (Kd.int .i64) (some ⟨g10179, 0, none⟩) 1 l10180 :: Ro.sl (Kd.int .i64) (some ⟨g10179, 0, none⟩) 1 l10180 :: rs) ∧ confidantlaw20_ParkNobody.l0 K a4 t10182 a6 j11025 n x11164 x11167 x11170 = some x10158) K (by kernel_rfl) ?_ (fun n a w hI => ?_)
      · refine EQ.keep [1, 2, 7, 8, 9, 10] [(1, .int .u8 a5), (2, .int .u16 a6), (7, .pointer (some ⟨g10183, 0, none⟩)), (8, .pointer (some ⟨g10195, 0, none⟩)), (9, .int .i64 (IntKind.i64.wrap (Int.tmod a4 17))), (10, .int .i64 0)] (by kernel_rfl) ?_
        exact fun a ha => ⟨t10194, t10181, 0, A10196, C10197, A10184, C10185, ha, (hS.re [4, 4, 4, 4, 4] [] rfl (sub_cons 0 rfl (sub_cons 0 rfl (sub_tail (sub_tail (sub_self)))))), H⟩
      · obtain ⟨x11164, x11167, x11170, A11165, C11166, A11168, C11169, ha, hS, H⟩ := hI
        obtain _ | n := n
        · simp [confidantlaw20_ParkNobody.l0] at H
        rw [confidantlaw20_ParkNobody.l0.eq_2] at H
        refine EW.at ?_ a ha
        clear ha a
        refine EW.seq (x := Cd3.r.r.r.r.r.l.r.l.l.l) (y := Cd3.r.r.r.r.r.l.r.l.l.r) (by kernel_rfl) ?_
        refine EW.seq (x := Cd3.r.r.r.r.r.l.r.l.l.l.l) (y := Cd3.r.r.r.r.r.l.r.l.l.l.r) (by kernel_rfl) ?_
        refine EW.region (id := 7) (ops := Cd3.r.r.r.r.r.l.r.l.l.l.l.ops) (by kernel_rfl) ?_
        refine EL.quick 3 [1, 2, 7, 8, 9, 10, 26] [(1, .int .u8 a5), (2, .int .u16 a6), (7, .pointer (some ⟨g10183, 0, none⟩)), (8, .pointer (some ⟨g10195, 0, none⟩)), (9, .int .i64 (IntKind.i64.wrap (Int.tmod a4 17))), (10, .int .i64 x11170), (26, .bool (decide (x11170 < (IntKind.i64.wrap (Int.tmod a4 17)))))] (by kernel_rfl) ?_
        refine EL.done (by kernel_rfl) ?_
        refine EQ.code ?_
        refine EW.condP (o := (.tmp 26)) (x := Cd3.r.r.r.r.r.l.r.l.l.l.r.l) (y := Cd3.r.r.r.r.r.l.r.l.l.l.r.r) (x11170 < (IntKind.i64.wrap (Int.tmod a4 17))) (by kernel_rfl) (by kernel_rfl) (fun h11310 => ?_) (fun h11310 => ?_)
        · rw [if_pos h11310] at H
          refine EW.skip (by kernel_rfl) ?_
          refine EQ.code ?_
          refine EW.seq (x := Cd3.r.r.r.r.r.l.r.l.l.r.l) (y := Cd3.r.r.r.r.r.l.r.l.l.r.r) (by kernel_rfl) ?_
          refine EW.block (x := Cd3.r.r.r.r.r.l.r.l.l.r.l.l) (id := 1) (by kernel_rfl) ?_
          refine EW.seq (x := Cd3.r.r.r.r.r.l.r.l.l.r.l.l.l) (y := Cd3.r.r.r.r.r.l.r.l.l.r.l.l.r) (by kernel_rfl) ?_
          refine EW.region (id := 9) (ops := Cd3.r.r.r.r.r.l.r.l.l.r.l.l.l.ops) (by kernel_rfl) ?_
          refine EL.quick 1 [1, 2, 7, 8, 9, 10, 30] [(1, .int .u8 a5), (2, .int .u16 a6), (7, .pointer (some ⟨g10183, 0, none⟩)), (8, .pointer (some ⟨g10195, 0, none⟩)), (9, .int .i64 (IntKind.i64.wrap (Int.tmod a4 17))), (10, .int .i64 x11170), (30, .pointer (some ⟨g10183, 0, none⟩))] (by kernel_rfl) ?_
          have hS : St B _ (Ass.box 91 g10183 [.slice A11168 x11167.length C11169, .slice A10186 t10182.length C10187] :: Ass.deep 94 96 kS96 A11168 C11169 x11167 :: Ass.own 3 (Kd.int .i64) A10186 C10187 t10182 :: Ass.box 93 g10195 [.slice A11165 x11164.length C11166] :: Ass.own 60 kS60 A11165 C11166 x11164 :: os) (Ro.sl (Kd.int .i64) (some ⟨g10179, 0, none⟩) 1 l10180 :: Ro.sl (Kd.int .i64) (some ⟨g10179, 0, none⟩) 1 l10180 :: rs) := hS.re [4, 4, 4] [] rfl sub_self
          obtain ⟨t11378, t11379, t11380, hc11383, H⟩ := b3_out H
          refine EL.of (EO.callD 13 [.pointer (some ⟨g10183, 0, none⟩), .int .i64 0, .int .i64 0] _ 31 (by kernel_rfl) (by kernel_rfl) (by kernel_rfl) (future_Futures_Make.calls hc11383 hS) ?_)
          rintro v w ⟨A11381, C11382, rfl, hS⟩
          refine EL.quick 5 [1, 2, 7, 8, 9, 10, 11, 12] [(1, .int .u8 a5), (2, .int .u16 a6), (7, .pointer (some ⟨g10183, 0, none⟩)), (8, .pointer (some ⟨g10195, 0, none⟩)), (9, .int .i64 (IntKind.i64.wrap (Int.tmod a4 17))), (10, .int .i64 x11170), (11, .int .i32 t11379), (12, .bool (t11380))] (by kernel_rfl) ?_
          refine EL.done (by kernel_rfl) ?_
          refine EQ.code ?_
          refine EW.seq (x := Cd3.r.r.r.r.r.l.r.l.l.r.l.l.r.l) (y := Cd3.r.r.r.r.r.l.r.l.l.r.l.l.r.r) (by kernel_rfl) ?_
          obtain ⟨j11395, hj11395, H⟩ := lt_out H
          refine EW.cut (x := Cd3.r.r.r.r.r.l.r.l.l.r.l.l.r.l.l) (y := Cd3.r.r.r.r.r.l.r.l.l.r.l.l.r.l.r) (fun a w => ∃ x11394 : Bool, Sat 99 [(1, .int .u8 a5), (2, .int .u16 a6), (7, .pointer (some ⟨g10183, 0, none⟩)), (8, .pointer (some ⟨g10195, 0, none⟩)), (9, .int .i64 (IntKind.i64.wrap (Int.tmod a4 17))), (10, .int .i64 x11170), (11, .int .i32 t11379), (39, .bool (x11394))] a ∧ St B w (Ass.box 91 g10183 [.slice A11381 t11378.length C11382, .slice A10186 t10182.length C10187] :: Ass.deep 94 96 kS96 A11381 C11382 t11378 :: Ass.own 3 (Kd.int .i64) A10186 C10187 t10182 :: Ass.box 93 g10195 [.slice A11165 x11164.length C11166] :: Ass.own 60 kS60 A11165 C11166 x11164 :: os) (Ro.sl (Kd.int .i64) (some ⟨g10179, 0, none⟩) 1 l10180 :: Ro.sl (Kd.int .i64) (some ⟨g10179, 0, none⟩) 1 l10180 :: rs) ∧ j11395 x11394 = some x10158) (by kernel_rfl) ?_ (fun a w hI => ?_)
          · refine EW.region (id := 10) (ops := Cd3.r.r.r.r.r.l.r.l.l.r.l.l.r.l.l.ops) (by kernel_rfl) ?_
            refine EL.quick 3 [1, 2, 7, 8, 9, 10, 11, 36] [(1, .int .u8 a5), (2, .int .u16 a6), (7, .pointer (some ⟨g10183, 0, none⟩)), (8, .pointer (some ⟨g10195, 0, none⟩)), (9, .int .i64 (IntKind.i64.wrap (Int.tmod a4 17))), (10, .int .i64 x11170), (11, .int .i32 t11379), (36, .bool (!(t11380)))] (by kernel_rfl) ?_
            by_cases h11396 : t11380 = true
            · rw [if_pos h11396] at H
              refine EL.keep [1, 2, 7, 8, 9, 10, 11, 36] [(1, .int .u8 a5), (2, .int .u16 a6), (7, .pointer (some ⟨g10183, 0, none⟩)), (8, .pointer (some ⟨g10195, 0, none⟩)), (9, .int .i64 (IntKind.i64.wrap (Int.tmod a4 17))), (10, .int .i64 x11170), (11, .int .i32 t11379), (36, .bool (!(t11380)))] (by kernel_rfl) ?_
              refine EL.as' [(1, .int .u8 a5), (2, .int .u16 a6), (7, .pointer (some ⟨g10183, 0, none⟩)), (8, .pointer (some ⟨g10195, 0, none⟩)), (9, .int .i64 (IntKind.i64.wrap (Int.tmod a4 17))), (10, .int .i64 x11170), (11, .int .i32 t11379), (36, .bool (false))] (by simp only [h11396, Bool.not_true, Bool.not_false]) ?_
              refine EL.quick 3 [1, 2, 7, 8, 9, 10, 11, 39] [(1, .int .u8 a5), (2, .int .u16 a6), (7, .pointer (some ⟨g10183, 0, none⟩)), (8, .pointer (some ⟨g10195, 0, none⟩)), (9, .int .i64 (IntKind.i64.wrap (Int.tmod a4 17))), (10, .int .i64 x11170), (11, .int .i32 t11379), (39, .bool (false))] (by kernel_rfl) ?_
              refine EL.done (by kernel_rfl) ?_
              refine EQ.to ?_
              refine EQ.keep [1, 2, 7, 8, 9, 10, 11, 39] [(1, .int .u8 a5), (2, .int .u16 a6), (7, .pointer (some ⟨g10183, 0, none⟩)), (8, .pointer (some ⟨g10195, 0, none⟩)), (9, .int .i64 (IntKind.i64.wrap (Int.tmod a4 17))), (10, .int .i64 x11170), (11, .int .i32 t11379), (39, .bool (false))] (by kernel_rfl) ?_
              exact fun a ha => ⟨false, ha, (hS.re [4, 4, 4, 4, 4] [] rfl (sub_cons 0 rfl (sub_cons 0 rfl (sub_tail (sub_tail (sub_self)))))), H⟩
            · rw [if_neg h11396] at H
              refine EL.keep [1, 2, 7, 8, 9, 10, 11, 36] [(1, .int .u8 a5), (2, .int .u16 a6), (7, .pointer (some ⟨g10183, 0, none⟩)), (8, .pointer (some ⟨g10195, 0, none⟩)), (9, .int .i64 (IntKind.i64.wrap (Int.tmod a4 17))), (10, .int .i64 x11170), (11, .int .i32 t11379), (36, .bool (!(t11380)))] (by kernel_rfl) ?_
              refine EL.as' [(1, .int .u8 a5), (2, .int .u16 a6), (7, .pointer (some ⟨g10183, 0, none⟩)), (8, .pointer (some ⟨g10195, 0, none⟩)), (9, .int .i64 (IntKind.i64.wrap (Int.tmod a4 17))), (10, .int .i64 x11170), (11, .int .i32 t11379), (36, .bool (true))] (by simp only [(Bool.eq_false_iff.2 h11396), Bool.not_true, Bool.not_false]) ?_
              refine EL.quick 3 [1, 2, 7, 8, 9, 10, 11, 37, 38, 39] [(1, .int .u8 a5), (2, .int .u16 a6), (7, .pointer (some ⟨g10183, 0, none⟩)), (8, .pointer (some ⟨g10195, 0, none⟩)), (9, .int .i64 (IntKind.i64.wrap (Int.tmod a4 17))), (10, .int .i64 x11170), (11, .int .i32 t11379), (37, .int .i64 x11170), (38, .bool (decide (x11170 < 16))), (39, .bool (decide (x11170 < 16)))] (by kernel_rfl) ?_
              refine EL.done (by kernel_rfl) ?_
              refine EQ.to ?_
              refine EQ.keep [1, 2, 7, 8, 9, 10, 11, 39] [(1, .int .u8 a5), (2, .int .u16 a6), (7, .pointer (some ⟨g10183, 0, none⟩)), (8, .pointer (some ⟨g10195, 0, none⟩)), (9, .int .i64 (IntKind.i64.wrap (Int.tmod a4 17))), (10, .int .i64 x11170), (11, .int .i32 t11379), (39, .bool (decide (x11170 < 16)))] (by kernel_rfl) ?_
              exact fun a ha => ⟨decide (x11170 < 16), ha, (hS.re [4, 4, 4, 4, 4] [] rfl (sub_cons 0 rfl (sub_cons 0 rfl (sub_tail (sub_tail (sub_self)))))), H⟩
          · obtain ⟨x11394, ha, hS, H⟩ := hI
            rw [hj11395] at H
            (try dsimp only at H)
            refine EW.at ?_ a ha
            clear ha a
            refine EW.condP' (o := (.tmp 39)) (x := Cd3.r.r.r.r.r.l.r.l.l.r.l.l.r.l.r.l) (y := Cd3.r.r.r.r.r.l.r.l.l.r.l.l.r.l.r.r) (x11394) (by kernel_rfl) (by kernel_rfl) (fun h11397 => ?_) (fun h11397 => ?_)
            · rw [if_pos h11397] at H
              refine EW.seq (x := Cd3.r.r.r.r.r.l.r.l.l.r.l.l.r.l.r.l.l) (y := Cd3.r.r.r.r.r.l.r.l.l.r.l.l.r.l.r.l.r) (by kernel_rfl) ?_
              refine EW.region (id := 11) (ops := Cd3.r.r.r.r.r.l.r.l.l.r.l.l.r.l.r.l.l.ops) (by kernel_rfl) ?_
              refine EL.quick 1 [6] [(6, .bool (false))] (by kernel_rfl) ?_
              refine EL.done (by kernel_rfl) ?_
              refine EQ.code ?_
              refine EW.ret (by kernel_rfl) ?_
              refine EQ.ret ?_
              refine EQ.ret ?_
              refine EQ.ret ?_
              refine EQ.ret ?_
              refine EQ.ret ?_
              refine EQ.ret ?_
              obtain rfl := Option.some.inj H
              exact EQ.leave (.bool (false)) (by kernel_rfl) ⟨_, rfl, rfl, (hS.re [] [0, 0, 0, 0, 0] rfl (sub_tail (sub_tail (sub_self))))⟩
            · rw [if_neg h11397] at H
              refine EW.skip (by kernel_rfl) ?_
              refine EQ.code ?_
              obtain ⟨j11420, hj11420, H⟩ := lt_out H
              refine EW.cut (x := Cd3.r.r.r.r.r.l.r.l.l.r.l.l.r.r.l) (y := Cd3.r.r.r.r.r.l.r.l.l.r.l.l.r.r.r) (fun a w => ∃ x11417 : List (List S96), ∃ A11418 : Option Addr, ∃ C11419 : Nat, Sat 99 [(1, .int .u8 a5), (2, .int .u16 a6), (7, .pointer (some ⟨g10183, 0, none⟩)), (8, .pointer (some ⟨g10195, 0, none⟩)), (9, .int .i64 (IntKind.i64.wrap (Int.tmod a4 17))), (10, .int .i64 x11170), (11, .int .i32 t11379)] a ∧ St B w (Ass.box 91 g10183 [.slice A11418 x11417.length C11419, .slice A10186 t10182.length C10187] :: Ass.deep 94 96 kS96 A11418 C11419 x11417 :: Ass.own 3 (Kd.int .i64) A10186 C10187 t10182 :: Ass.box 93 g10195 [.slice A11165 x11164.length C11166] :: Ass.own 60 kS60 A11165 C11166 x11164 :: os) (Ro.sl (Kd.int .i64) (some ⟨g10179, 0, none⟩) 1 l10180 :: Ro.sl (Kd.int .i64) (some ⟨g10179, 0, none⟩) 1 l10180 :: rs) ∧ j11420 x11417 = some x10158) (by kernel_rfl) ?_ (fun a w hI => ?_)
              · refine EW.seq (x := Cd3.r.r.r.r.r.l.r.l.l.r.l.l.r.r.l.l) (y := Cd3.r.r.r.r.r.l.r.l.l.r.l.l.r.r.l.r) (by kernel_rfl) ?_
                refine EW.region (id := 12) (ops := Cd3.r.r.r.r.r.l.r.l.l.r.l.l.r.r.l.l.ops) (by kernel_rfl) ?_
                refine EL.quick 3 [1, 2, 7, 8, 9, 10, 11, 40, 42] [(1, .int .u8 a5), (2, .int .u16 a6), (7, .pointer (some ⟨g10183, 0, none⟩)), (8, .pointer (some ⟨g10195, 0, none⟩)), (9, .int .i64 (IntKind.i64.wrap (Int.tmod a4 17))), (10, .int .i64 x11170), (11, .int .i32 t11379), (40, .int .u16 a6), (42, .int .i64 (Int.tmod x11170 16))] (by kernel_rfl) ?_
                obtain ⟨h11422, H⟩ := ite_out H
                refine EL.of (EO.Y (YO.shift .shr .u16 .i64 a6 (Int.tmod x11170 16) (sR .u16 a6 (Int.tmod x11170 16)) 43 (by kernel_rfl) (by kernel_rfl) (by kernel_rfl) h11422 (by first | exact .inl ⟨rfl, rfl⟩ | exact .inr ⟨rfl, rfl⟩)) ?_)
                refine EL.quick 2 [1, 2, 7, 8, 9, 10, 11, 45] [(1, .int .u8 a5), (2, .int .u16 a6), (7, .pointer (some ⟨g10183, 0, none⟩)), (8, .pointer (some ⟨g10195, 0, none⟩)), (9, .int .i64 (IntKind.i64.wrap (Int.tmod a4 17))), (10, .int .i64 x11170), (11, .int .i32 t11379), (45, .bool (decide ((bA .u16 (sR .u16 a6 (Int.tmod x11170 16)) 1) = 1)))] (by kernel_rfl) ?_
                refine EL.done (by kernel_rfl) ?_
                refine EQ.code ?_
                refine EW.condP (o := (.tmp 45)) (x := Cd3.r.r.r.r.r.l.r.l.l.r.l.l.r.r.l.r.l) (y := Cd3.r.r.r.r.r.l.r.l.l.r.l.l.r.r.l.r.r) ((bA .u16 (sR .u16 a6 (Int.tmod x11170 16)) 1) = 1) (by kernel_rfl) (by kernel_rfl) (fun h11423 => ?_) (fun h11423 => ?_)
                · rw [if_pos h11423] at H
                  refine EW.region (id := 13) (ops := Cd3.r.r.r.r.r.l.r.l.l.r.l.l.r.r.l.r.l.ops) (by kernel_rfl) ?_
                  refine EL.quick 2 [1, 2, 7, 8, 9, 10, 11, 46, 47] [(1, .int .u8 a5), (2, .int .u16 a6), (7, .pointer (some ⟨g10183, 0, none⟩)), (8, .pointer (some ⟨g10195, 0, none⟩)), (9, .int .i64 (IntKind.i64.wrap (Int.tmod a4 17))), (10, .int .i64 x11170), (11, .int .i32 t11379), (46, .pointer (some ⟨g10183, 0, none⟩)), (47, .int .i32 t11379)] (by kernel_rfl) ?_
                  obtain ⟨t11424, t11425, hc11428, H⟩ := b2_out H
                  refine EL.of (EO.callD 14 [.pointer (some ⟨g10183, 0, none⟩), .int .i32 t11379, .int .i32 3] _ 48 (by kernel_rfl) (by kernel_rfl) (by kernel_rfl) (future_Futures_Keep.calls hc11428 hS) ?_)
                  rintro v w ⟨A11426, C11427, rfl, hS⟩
                  refine EL.done (by kernel_rfl) ?_
                  refine EQ.to ?_
                  refine EQ.keep [1, 2, 7, 8, 9, 10, 11] [(1, .int .u8 a5), (2, .int .u16 a6), (7, .pointer (some ⟨g10183, 0, none⟩)), (8, .pointer (some ⟨g10195, 0, none⟩)), (9, .int .i64 (IntKind.i64.wrap (Int.tmod a4 17))), (10, .int .i64 x11170), (11, .int .i32 t11379)] (by kernel_rfl) ?_
                  exact fun a ha => ⟨t11424, A11426, C11427, ha, (hS.re [4, 4, 4, 4, 4] [] rfl (sub_cons 0 rfl (sub_cons 0 rfl (sub_tail (sub_tail (sub_self)))))), H⟩
                · rw [if_neg h11423] at H
                  refine EW.skip (by kernel_rfl) ?_
                  refine EQ.to ?_
                  refine EQ.keep [1, 2, 7, 8, 9, 10, 11] [(1, .int .u8 a5), (2, .int .u16 a6), (7, .pointer (some ⟨g10183, 0, none⟩)), (8, .pointer (some ⟨g10195, 0, none⟩)), (9, .int .i64 (IntKind.i64.wrap (Int.tmod a4 17))), (10, .int .i64 x11170), (11, .int .i32 t11379)] (by kernel_rfl) ?_
                  exact fun a ha => ⟨t11378, A11381, C11382, ha, (hS.re [4, 4, 4, 4, 4] [] rfl (sub_cons 0 rfl (sub_cons 0 rfl (sub_tail (sub_tail (sub_self)))))), H⟩
              · obtain ⟨x11417, A11418, C11419, ha, hS, H⟩ := hI
                rw [hj11420] at H
                (try dsimp only at H)
                refine EW.at ?_ a ha
                clear ha a
                refine EW.region (id := 14) (ops := Cd3.r.r.r.r.r.l.r.l.l.r.l.l.r.r.r.ops) (by kernel_rfl) ?_
                refine EL.quick 5 [1, 2, 7, 8, 9, 10, 49, 52, 53] [(1, .int .u8 a5), (2, .int .u16 a6), (7, .pointer (some ⟨g10183, 0, none⟩)), (8, .pointer (some ⟨g10195, 0, none⟩)), (9, .int .i64 (IntKind.i64.wrap (Int.tmod a4 17))), (10, .int .i64 x11170), (49, .pointer (some ⟨g10195, 0, none⟩)), (52, .agg #[.int .i32 (IntKind.i32.wrap x11170), .int .i64 0, .int .i64 0, .slice none ([] : List Int).length 0, .int .i32 0, .int .i32 0, .int .i32 0, .int .i32 0, .int .i64 0, .int .i64 0, .int .u32 0, .int .i64 0]), (53, .int .i32 t11379)] (by kernel_rfl) ?_
                have hS := St.nilR hS (Kd.int .i32)
                have hS : St B _ (Ass.box 93 g10195 [.slice A11165 x11164.length C11166] :: Ass.own 60 kS60 A11165 C11166 x11164 :: Ass.box 91 g10183 [.slice A11418 x11417.length C11419, .slice A10186 t10182.length C10187] :: Ass.deep 94 96 kS96 A11418 C11419 x11417 :: Ass.own 3 (Kd.int .i64) A10186 C10187 t10182 :: os) (Ro.sl (Kd.int .i32) none 0 ([] : List Int) :: Ro.sl (Kd.int .i32) none 0 ([] : List Int) :: Ro.sl (Kd.int .i64) (some ⟨g10179, 0, none⟩) 1 l10180 :: Ro.sl (Kd.int .i64) (some ⟨g10179, 0, none⟩) 1 l10180 :: rs) := hS.re [4, 4] [] rfl (sub_cons 0 rfl sub_self)
                obtain ⟨t11429, hc11432, H⟩ := b1_out H
                refine EL.of (EO.callD 15 [.pointer (some ⟨g10195, 0, none⟩), .agg #[.int .i32 (IntKind.i32.wrap x11170), .int .i64 0, .int .i64 0, .slice none ([] : List Int).length 0, .int .i32 0, .int .i32 0, .int .i32 0, .int .i32 0, .int .i64 0, .int .i64 0, .int .u32 0, .int .i64 0], .int .i32 t11379] _ 54 (by kernel_rfl) (by kernel_rfl) (by kernel_rfl) (park_Park_Add.calls hc11432 hS) ?_)
                rintro v w ⟨A11430, C11431, rfl, hS⟩
                refine EL.done (by kernel_rfl) ?_
                refine EQ.pop ?_
                refine EQ.code ?_
                refine EW.region (id := 8) (ops := Cd3.r.r.r.r.r.l.r.l.l.r.r.ops) (by kernel_rfl) ?_
                refine EL.quick 3 [1, 2, 7, 8, 9, 10] [(1, .int .u8 a5), (2, .int .u16 a6), (7, .pointer (some ⟨g10183, 0, none⟩)), (8, .pointer (some ⟨g10195, 0, none⟩)), (9, .int .i64 (IntKind.i64.wrap (Int.tmod a4 17))), (10, .int .i64 (IntKind.i64.wrap (x11170 + 1)))] (by kernel_rfl) ?_
                refine EL.done (by kernel_rfl) ?_
                refine EQ.to ?_
                refine EQ.keep [1, 2, 7, 8, 9, 10] [(1, .int .u8 a5), (2, .int .u16 a6), (7, .pointer (some ⟨g10183, 0, none⟩)), (8, .pointer (some ⟨g10195, 0, none⟩)), (9, .int .i64 (IntKind.i64.wrap (Int.tmod a4 17))), (10, .int .i64 (IntKind.i64.wrap (x11170 + 1)))] (by kernel_rfl) ?_
                exact fun a ha => ⟨n, Nat.lt_succ_self n, t11429, x11417, IntKind.i64.wrap (x11170 + 1), A11430, C11431, A11418, C11419, ha, (hS.re [4, 4, 4, 4, 4] [] rfl (sub_cons 2 rfl (sub_cons 2 rfl (sub_tail (sub_tail (sub_tail (sub_tail (sub_self)))))))), H⟩
        · rw [if_neg h11310] at H
          refine EW.exit (id := 0) (by kernel_rfl) ?_
          refine EQ.exitCode ?_
          refine EQ.exitTo ?_
          refine EQ.exitHere ?_
          refine EQ.to ?_
          refine EQ.keep [1, 7, 8, 9] [(1, .int .u8 a5), (7, .pointer (some ⟨g10183, 0, none⟩)), (8, .pointer (some ⟨g10195, 0, none⟩)), (9, .int .i64 (IntKind.i64.wrap (Int.tmod a4 17)))] (by kernel_rfl) ?_
          exact fun a ha => ⟨x11164, x11167, A11165, C11166, A11168, C11169, ha, (hS.re [4, 4, 4, 4, 4] [] rfl (sub_cons 0 rfl (sub_cons 0 rfl (sub_tail (sub_tail (sub_self)))))), H⟩
    · obtain ⟨x11019, x11022, A11020, C11021, A11023, C11024, ha, hS, H⟩ := hI
      rw [hj11025] at H
      (try dsimp only at H)
      refine EW.at ?_ a ha
      clear ha a
      refine EW.seq (x := Cd3.r.r.r.r.r.r.l) (y := Cd3.r.r.r.r.r.r.r) (by kernel_rfl) ?_
      refine EW.region (id := 15) (ops := Cd3.r.r.r.r.r.r.l.ops) (by kernel_rfl) ?_
      refine EL.quick 5 [1, 8, 9, 56, 57, 60] [(1, .int .u8 a5), (8, .pointer (some ⟨g10195, 0, none⟩)), (9, .int .i64 (IntKind.i64.wrap (Int.tmod a4 17))), (56, .pointer (some ⟨g10195, 0, none⟩)), (57, .pointer (some ⟨g10183, 0, none⟩)), (60, .int .i64 (IntKind.i64.wrap (Int.tmod a5 20)))] (by kernel_rfl) ?_
      obtain ⟨t11444, t11445, t11446, t11447, hc11454, H⟩ := b4_out H
      refine EL.of (EO.callD 16 [.pointer (some ⟨g10195, 0, none⟩), .pointer (some ⟨g10183, 0, none⟩), .int .i64 (IntKind.i64.wrap (Int.tmod a5 20))] _ 61 (by kernel_rfl) (by kernel_rfl) (by kernel_rfl) (park_Park_Look.calls hc11454 hS) ?_)
      rintro v w ⟨A11448, C11449, A11450, C11451, A11452, C11453, rfl, hS⟩
      refine EL.quick 7 [1, 8, 9, 13, 14, 15] [(1, .int .u8 a5), (8, .pointer (some ⟨g10195, 0, none⟩)), (9, .int .i64 (IntKind.i64.wrap (Int.tmod a4 17))), (13, .slice A11450 t11445.length C11451), (14, .slice A11452 t11446.length C11453), (15, .int .i64 t11447)] (by kernel_rfl) ?_
      refine EL.done (by kernel_rfl) ?_
      refine EQ.code ?_
      refine EW.seq (x := Cd3.r.r.r.r.r.r.r.l) (y := Cd3.r.r.r.r.r.r.r.r) (by kernel_rfl) ?_
      refine EW.region (id := 16) (ops := Cd3.r.r.r.r.r.r.r.l.ops) (by kernel_rfl) ?_
      refine EL.quick 6 [1, 9, 14, 15, 69, 70] [(1, .int .u8 a5), (9, .int .i64 (IntKind.i64.wrap (Int.tmod a4 17))), (14, .slice A11452 t11446.length C11453), (15, .int .i64 t11447), (69, .int .i64 (IntKind.i64.wrap ((t11445.length : Int) + (t11446.length : Int)))), (70, .pointer (some ⟨g10195, 0, none⟩))] (by kernel_rfl) ?_
      have hS : St B _ (Ass.box 93 g10195 [.slice A11448 t11444.length C11449] :: Ass.own 60 kS60 A11448 C11449 t11444 :: Ass.own 60 kS60 A11020 C11021 x11019 :: Ass.box 91 g10183 [.slice A11023 x11022.length C11024, .slice A10186 t10182.length C10187] :: Ass.deep 94 96 kS96 A11023 C11024 x11022 :: Ass.own 3 (Kd.int .i64) A10186 C10187 t10182 :: Ass.own 36 kS36 A11450 C11451 t11445 :: Ass.own 36 kS36 A11452 C11453 t11446 :: os) (Ro.sl (Kd.int .i64) (some ⟨g10179, 0, none⟩) 1 l10180 :: Ro.sl (Kd.int .i64) (some ⟨g10179, 0, none⟩) 1 l10180 :: rs) := hS.re [5, 1] [] rfl sub_self
      obtain ⟨t11455, hc11456, H⟩ := b1_out H
      refine EL.of (EO.callD 17 [.pointer (some ⟨g10195, 0, none⟩)] _ 71 (by kernel_rfl) (by kernel_rfl) (by kernel_rfl) (park_Park_Len.calls hc11456 hS) ?_)
      rintro v w ⟨rfl, hS⟩
      refine EL.quick 4 [1, 9, 14, 15, 75] [(1, .int .u8 a5), (9, .int .i64 (IntKind.i64.wrap (Int.tmod a4 17))), (14, .slice A11452 t11446.length C11453), (15, .int .i64 t11447), (75, .bool (decide ((IntKind.i64.wrap ((IntKind.i64.wrap ((t11445.length : Int) + (t11446.length : Int))) + t11455)) = (IntKind.i64.wrap (Int.tmod a4 17)))))] (by kernel_rfl) ?_
      by_cases h11457 : (IntKind.i64.wrap ((IntKind.i64.wrap ((t11445.length : Int) + (t11446.length : Int))) + t11455)) = (IntKind.i64.wrap (Int.tmod a4 17))
      · rw [if_pos h11457] at H
        refine EL.keep [1, 9, 14, 15, 75] [(1, .int .u8 a5), (9, .int .i64 (IntKind.i64.wrap (Int.tmod a4 17))), (14, .slice A11452 t11446.length C11453), (15, .int .i64 t11447), (75, .bool (decide ((IntKind.i64.wrap ((IntKind.i64.wrap ((t11445.length : Int) + (t11446.length : Int))) + t11455)) = (IntKind.i64.wrap (Int.tmod a4 17)))))] (by kernel_rfl) ?_
        refine EL.as' [(1, .int .u8 a5), (9, .int .i64 (IntKind.i64.wrap (Int.tmod a4 17))), (14, .slice A11452 t11446.length C11453), (15, .int .i64 t11447), (75, .bool (true))] (by simp only [dec_t h11457, Bool.not_true, Bool.not_false]) ?_
        refine EL.quick 13 [1, 9, 14, 88] [(1, .int .u8 a5), (9, .int .i64 (IntKind.i64.wrap (Int.tmod a4 17))), (14, .slice A11452 t11446.length C11453), (88, .bool (decide (t11447 = (IntKind.i64.wrap ((IntKind.i64.wrap (Int.tmod a5 20)) - (mn (IntKind.i64.wrap (Int.tmod a4 17)) (IntKind.i64.wrap (Int.tmod a5 20))))))))] (by kernel_rfl) ?_
        by_cases h11458 : t11447 = (IntKind.i64.wrap ((IntKind.i64.wrap (Int.tmod a5 20)) - (mn (IntKind.i64.wrap (Int.tmod a4 17)) (IntKind.i64.wrap (Int.tmod a5 20)))))
        · rw [if_pos h11458] at H
          refine EL.keep [1, 9, 14, 88] [(1, .int .u8 a5), (9, .int .i64 (IntKind.i64.wrap (Int.tmod a4 17))), (14, .slice A11452 t11446.length C11453), (88, .bool (decide (t11447 = (IntKind.i64.wrap ((IntKind.i64.wrap (Int.tmod a5 20)) - (mn (IntKind.i64.wrap (Int.tmod a4 17)) (IntKind.i64.wrap (Int.tmod a5 20))))))))] (by kernel_rfl) ?_
          refine EL.as' [(1, .int .u8 a5), (9, .int .i64 (IntKind.i64.wrap (Int.tmod a4 17))), (14, .slice A11452 t11446.length C11453), (88, .bool (true))] (by simp only [dec_t h11458, Bool.not_true, Bool.not_false]) ?_
          refine EL.quick 11 [6] [(6, .bool (decide ((t11446.length : Int) = (mx (IntKind.i64.wrap ((IntKind.i64.wrap (Int.tmod a4 17)) - (IntKind.i64.wrap (Int.tmod a5 20)))) 0))))] (by kernel_rfl) ?_
          refine EL.done (by kernel_rfl) ?_
          refine EQ.code ?_
          refine EW.ret (by kernel_rfl) ?_
          obtain rfl := Option.some.inj H
          exact EQ.leave (.bool (decide ((t11446.length : Int) = (mx (IntKind.i64.wrap ((IntKind.i64.wrap (Int.tmod a4 17)) - (IntKind.i64.wrap (Int.tmod a5 20)))) 0)))) (by kernel_rfl) ⟨_, rfl, rfl, (hS.re [] [0, 0, 0, 0, 0, 0, 0, 0] rfl (sub_tail (sub_tail (sub_self))))⟩
        · rw [if_neg h11458] at H
          refine EL.keep [1, 9, 14, 88] [(1, .int .u8 a5), (9, .int .i64 (IntKind.i64.wrap (Int.tmod a4 17))), (14, .slice A11452 t11446.length C11453), (88, .bool (decide (t11447 = (IntKind.i64.wrap ((IntKind.i64.wrap (Int.tmod a5 20)) - (mn (IntKind.i64.wrap (Int.tmod a4 17)) (IntKind.i64.wrap (Int.tmod a5 20))))))))] (by kernel_rfl) ?_
          refine EL.as' [(1, .int .u8 a5), (9, .int .i64 (IntKind.i64.wrap (Int.tmod a4 17))), (14, .slice A11452 t11446.length C11453), (88, .bool (false))] (by simp only [dec_f h11458, Bool.not_true, Bool.not_false]) ?_
          refine EL.quick 11 [6] [(6, .bool (false))] (by kernel_rfl) ?_
          refine EL.done (by kernel_rfl) ?_
          refine EQ.code ?_
          refine EW.ret (by kernel_rfl) ?_
          obtain rfl := Option.some.inj H
          exact EQ.leave (.bool (false)) (by kernel_rfl) ⟨_, rfl, rfl, (hS.re [] [0, 0, 0, 0, 0, 0, 0, 0] rfl (sub_tail (sub_tail (sub_self))))⟩
      · rw [if_neg h11457] at H
        refine EL.keep [1, 9, 14, 15, 75] [(1, .int .u8 a5), (9, .int .i64 (IntKind.i64.wrap (Int.tmod a4 17))), (14, .slice A11452 t11446.length C11453), (15, .int .i64 t11447), (75, .bool (decide ((IntKind.i64.wrap ((IntKind.i64.wrap ((t11445.length : Int) + (t11446.length : Int))) + t11455)) = (IntKind.i64.wrap (Int.tmod a4 17)))))] (by kernel_rfl) ?_
        refine EL.as' [(1, .int .u8 a5), (9, .int .i64 (IntKind.i64.wrap (Int.tmod a4 17))), (14, .slice A11452 t11446.length C11453), (15, .int .i64 t11447), (75, .bool (false))] (by simp only [dec_f h11457, Bool.not_true, Bool.not_false]) ?_
        refine EL.quick 24 [6] [(6, .bool (false))] (by kernel_rfl) ?_
        refine EL.done (by kernel_rfl) ?_
        refine EQ.code ?_
        refine EW.ret (by kernel_rfl) ?_
        obtain rfl := Option.some.inj H
        exact EQ.leave (.bool (false)) (by kernel_rfl) ⟨_, rfl, rfl, (hS.re [] [0, 0, 0, 0, 0, 0, 0, 0] rfl (sub_tail (sub_tail (sub_self))))⟩
  · rw [if_neg h10168] at H
    refine EW.seq (x := Cd3.r.l.r.l.l) (y := Cd3.r.l.r.l.r) (by kernel_rfl) ?_
    refine EW.region (id := 2) (ops := Cd3.r.l.r.l.l.ops) (by kernel_rfl) ?_
    refine EL.quick 1 [6] [(6, .bool (false))] (by kernel_rfl) ?_
    refine EL.done (by kernel_rfl) ?_
    refine EQ.code ?_
    refine EW.ret (by kernel_rfl) ?_
    refine EQ.ret ?_
    obtain rfl := Option.some.inj H
    exact EQ.leave (.bool (false)) (by kernel_rfl) ⟨_, rfl, rfl, (hS.re [] [] rfl (sub_self))⟩

def confidantlaw20_ParkNobody.Pure : Prop := ∀ (a4 : Int) (a5 : Int) (a6 : Int), (Lit.int .u8 a4).wf = true → (Lit.int .u8 a5).wf = true → (Lit.int .u16 a6).wf = true → ∃ K, confidantlaw20_ParkNobody.f K a4 a5 a6 = some true

end Go.Proofs.Ytipaaapbapijhaa.G
