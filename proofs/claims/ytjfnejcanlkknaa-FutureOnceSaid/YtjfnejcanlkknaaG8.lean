import Derived.Test.YtjfnejcanlkknaaProg
import Derived.Test.YtjfnejcanlkknaaFwEq
import Derived.Test.YtjfnejcanlkknaaFwOpen
import Derived.Test.YtjfnejcanlkknaaG0
import Derived.Test.YtjfnejcanlkknaaG1
import Derived.Test.YtjfnejcanlkknaaG2
import Derived.Test.YtjfnejcanlkknaaG3
import Derived.Test.YtjfnejcanlkknaaG7
namespace Go.Proofs.Ytjfnejcanlkknaa.G
open Go Go.Fw Go.RowKit Go.Proofs
set_option linter.unusedVariables false
set_option linter.unusedSimpArgs false

/-! ### confidant/confidantlaw13.FutureOnce: function 12 -/
def confidantlaw13_FutureOnce.l0 (K : Nat) (l5 : List Int) (t1159 : List Int) (t1173 : Int) (a8 : Int) (j1874 : (List (List S75)) → Option Bool) : Nat → (List (List S75)) → Int → Option Bool
  | 0, _, _ => none
  | n + 1, x1983, x1986 => if x1986 < (l5.length : Int) then (lt (fun (x2198 : List (List S75)) (x2201 : Bool) => (if (x2201 == (decide (x1986 = 0))) = true then (confidantlaw13_FutureOnce.l0 K l5 t1159 t1173 a8 j1874 n x2198 (IntKind.i64.wrap (x1986 + 1))) else (some false))) fun j2202 => (if 0 ≤ x1986 then (if (Int.tmod (l5.getD x1986.toNat 0) 2) = 0 then (b2 (future_Futures_Keep.f K x1983 t1159 t1173 (IntKind.i32.wrap (a8 + (IntKind.i32.wrap x1986)))) fun (t2208 : List (List S75)) (t2209 : Bool) => (j2202 t2208 t2209)) else (b2 (future_Futures_Break.f K x1983 t1159 t1173 (IntKind.i64.wrap (x1986 + 1))) fun (t2213 : List (List S75)) (t2214 : Bool) => (j2202 t2213 t2214))) else none)) else (j1874 x1983)
def confidantlaw13_FutureOnce.f (K : Nat) (l5 : List Int) (a8 : Int) : Option Bool := b1 (confidantlaw13_known.f K) fun (t1129 : Bool) => (if t1129 = true then (lt (fun (x1142 : Bool) => (if x1142 = true then (some true) else (lt ([1] : List Int) fun l1157 => (b2 (future_New.f K l1157) fun (t1158 : List (List S75)) (t1159 : List Int) => (b3 (future_Futures_Make.f K t1158 t1159 0 0) fun (t1172 : List (List S75)) (t1173 : Int) (t1174 : Bool) => (if t1174 = true then (lt (fun (x1871 : List (List S75)) => (b2 (future_Futures_Get.f K x1871 t1159 t1173) fun (t2223 : S75) (t2224 : Bool) => (if t2224 = true then (if (0 : Int) < (l5.length : Int) then (if (Int.tmod (l5.getD (0 : Int).toNat 0) 2) = 0 then (if ((t2223.f0 == (0 : Int)) && ((t2223.f1 == (1 : Int)) && ((t2223.f2 == a8) && ((t2223.f3 == (0 : Int)) && true)))) = true then (some true) else (if (Int.tmod (l5.getD (0 : Int).toNat 0) 2) = 1 then (some ((t2223.f0 == (0 : Int)) && ((t2223.f1 == (2 : Int)) && ((t2223.f2 == (0 : Int)) && ((t2223.f3 == (1 : Int)) && true))))) else (some false))) else (if (Int.tmod (l5.getD (0 : Int).toNat 0) 2) = 1 then (some ((t2223.f0 == (0 : Int)) && ((t2223.f1 == (2 : Int)) && ((t2223.f2 == (0 : Int)) && ((t2223.f3 == (1 : Int)) && true))))) else (some false))) else none) else (some false)))) fun j1874 => (confidantlaw13_FutureOnce.l0 K l5 t1159 t1173 a8 j1874 K t1172 0)) else (some false))))))) fun j1143 => (if (l5.length : Int) > 20 then (j1143 true) else (j1143 (decide ((l5.length : Int) = 0))))) else (some false))
set_option maxRecDepth 100000 in
theorem confidantlaw13_FutureOnce.calls {K : Nat} {l5 : List Int} {a8 : Int} {A6 : Option Addr} {C7 : Nat} {x1121 : Bool} {B w : World} {os : List Ass} {rs : List Ro} (H : confidantlaw13_FutureOnce.f K l5 a8 = some x1121) (hS : St B w (os) (Ro.sl (Kd.int .u8) A6 C7 l5 :: rs)) :
    Calls Try.prog 12 [.slice A6 l5.length C7, .int .i32 a8].toArray w (fun en w' => ∃ v, en = .returned v ∧ v = .bool (x1121) ∧ St B w' (os) (Ro.sl (Kd.int .u8) A6 C7 l5 :: rs)) := by
  unfold confidantlaw13_FutureOnce.f at H
  refine calls_of_EW (args := [.slice A6 l5.length C7, .int .i32 a8]) (c := Cd12) 91 Try.func12 (by kernel_rfl) (by kernel_rfl) (by kernel_rfl) ?_
  refine EW.seq (x := Cd12.l) (y := Cd12.r) (by kernel_rfl) ?_
  refine EW.region (id := 0) (ops := Cd12.l.ops) (by kernel_rfl) ?_
  refine EL.quick 1 [0, 1] [(0, .slice A6 l5.length C7), (1, .int .i32 a8)] (by kernel_rfl) ?_
  refine EL.done (by kernel_rfl) ?_
  refine EQ.code ?_
  refine EW.seq (x := Cd12.r.l) (y := Cd12.r.r) (by kernel_rfl) ?_
  refine EW.seq (x := Cd12.r.l.l) (y := Cd12.r.l.r) (by kernel_rfl) ?_
  refine EW.region (id := 1) (ops := Cd12.r.l.l.ops) (by kernel_rfl) ?_
  obtain ⟨t1129, hc1130, H⟩ := b1_out H
  refine EL.of (EO.callD 42 [] _ 12 (by kernel_rfl) (by kernel_rfl) (by kernel_rfl) (confidantlaw13_known.calls hc1130 hS) ?_)
  rintro v w ⟨rfl, hS⟩
  refine EL.quick 1 [0, 1, 13] [(0, .slice A6 l5.length C7), (1, .int .i32 a8), (13, .bool (!(t1129)))] (by kernel_rfl) ?_
  refine EL.done (by kernel_rfl) ?_
  refine EQ.code ?_
  refine EW.condQ (b := !(t1129)) (o := (.tmp 13)) (x := Cd12.r.l.r.l) (y := Cd12.r.l.r.r) (t1129 = true) (false) (by kernel_rfl) (by kernel_rfl) ⟨fun h => (by rw [h] <;> rfl), fun h => (by rw [Bool.eq_false_iff.2 h] <;> rfl)⟩ (fun h1131 => ?_) (fun h1131 => ?_)
  · rw [if_pos h1131] at H
    refine EW.skip (by kernel_rfl) ?_
    refine EQ.code ?_
    refine EW.seq (x := Cd12.r.r.l) (y := Cd12.r.r.r) (by kernel_rfl) ?_
    obtain ⟨j1143, hj1143, H⟩ := lt_out H
    refine EW.cut (x := Cd12.r.r.l.l) (y := Cd12.r.r.l.r) (fun a w => ∃ x1142 : Bool, Sat 91 [(0, .slice A6 l5.length C7), (1, .int .i32 a8), (21, .bool (x1142))] a ∧ St B w (os) (Ro.sl (Kd.int .u8) A6 C7 l5 :: rs) ∧ j1143 x1142 = some x1121) (by kernel_rfl) ?_ (fun a w hI => ?_)
    · refine EW.region (id := 3) (ops := Cd12.r.r.l.l.ops) (by kernel_rfl) ?_
      refine EL.quick 4 [0, 1, 17] [(0, .slice A6 l5.length C7), (1, .int .i32 a8), (17, .bool (decide ((l5.length : Int) > 20)))] (by kernel_rfl) ?_
      by_cases h1144 : (l5.length : Int) > 20
      · rw [if_pos h1144] at H
        refine EL.keep [0, 1, 17] [(0, .slice A6 l5.length C7), (1, .int .i32 a8), (17, .bool (decide ((l5.length : Int) > 20)))] (by kernel_rfl) ?_
        refine EL.as' [(0, .slice A6 l5.length C7), (1, .int .i32 a8), (17, .bool (true))] (by simp only [dec_t h1144, Bool.not_true, Bool.not_false]) ?_
        refine EL.quick 4 [0, 1, 21] [(0, .slice A6 l5.length C7), (1, .int .i32 a8), (21, .bool (true))] (by kernel_rfl) ?_
        refine EL.done (by kernel_rfl) ?_
        refine EQ.to ?_
        refine EQ.keep [0, 1, 21] [(0, .slice A6 l5.length C7), (1, .int .i32 a8), (21, .bool (true))] (by kernel_rfl) ?_
        exact fun a ha => ⟨true, ha, (hS.re [] [] rfl (sub_cons 0 rfl (sub_tail (sub_self)))), H⟩
      · rw [if_neg h1144] at H
        refine EL.keep [0, 1, 17] [(0, .slice A6 l5.length C7), (1, .int .i32 a8), (17, .bool (decide ((l5.length : Int) > 20)))] (by kernel_rfl) ?_
        refine EL.as' [(0, .slice A6 l5.length C7), (1, .int .i32 a8), (17, .bool (false))] (by simp only [dec_f h1144, Bool.not_true, Bool.not_false]) ?_
        refine EL.quick 4 [0, 1, 21] [(0, .slice A6 l5.length C7), (1, .int .i32 a8), (21, .bool (decide ((l5.length : Int) = 0)))] (by kernel_rfl) ?_
        refine EL.done (by kernel_rfl) ?_
        refine EQ.to ?_
        refine EQ.keep [0, 1, 21] [(0, .slice A6 l5.length C7), (1, .int .i32 a8), (21, .bool (decide ((l5.length : Int) = 0)))] (by kernel_rfl) ?_
        exact fun a ha => ⟨decide ((l5.length : Int) = 0), ha, (hS.re [] [] rfl (sub_cons 0 rfl (sub_tail (sub_self)))), H⟩
    · obtain ⟨x1142, ha, hS, H⟩ := hI
      rw [hj1143] at H
      (try dsimp only at H)
      refine EW.at ?_ a ha
      clear ha a
      refine EW.condP' (o := (.tmp 21)) (x := Cd12.r.r.l.r.l) (y := Cd12.r.r.l.r.r) (x1142) (by kernel_rfl) (by kernel_rfl) (fun h1145 => ?_) (fun h1145 => ?_)
      · rw [if_pos h1145] at H
        refine EW.seq (x := Cd12.r.r.l.r.l.l) (y := Cd12.r.r.l.r.l.r) (by kernel_rfl) ?_
        refine EW.region (id := 4) (ops := Cd12.r.r.l.r.l.l.ops) (by kernel_rfl) ?_
        refine EL.quick 1 [4] [(4, .bool (true))] (by kernel_rfl) ?_
        refine EL.done (by kernel_rfl) ?_
        refine EQ.code ?_
        refine EW.ret (by kernel_rfl) ?_
        refine EQ.ret ?_
        obtain rfl := Option.some.inj H
        exact EQ.leave (.bool (true)) (by kernel_rfl) ⟨_, rfl, rfl, (hS.re [] [] rfl (sub_self))⟩
      · rw [if_neg h1145] at H
        refine EW.skip (by kernel_rfl) ?_
        refine EQ.code ?_
        refine EW.seq (x := Cd12.r.r.r.l) (y := Cd12.r.r.r.r) (by kernel_rfl) ?_
        refine EW.region (id := 5) (ops := Cd12.r.r.r.l.ops) (by kernel_rfl) ?_
        obtain ⟨l1157, hl1157, H⟩ := lt_out H
        refine EL.of (EO.lit hS (Kd.int .i64) 3 24 1 #[(0, .int .i64 1)] [.int .i64 1] l1157 22 (by kernel_rfl) (by kernel_rfl) (by kernel_rfl) (fun _ => (by kernel_rfl)) (by rw [hl1157]; rfl) (by kernel_rfl) (fun w G hr => (by rw [hl1157]; exact ⟨[.int .i64 1], [], rfl, rfl, rfl⟩)) ?_)
        intro g1156 w hS
        have hS := St.fr hS 0 rfl
        have hS : St B _ (os) (Ro.sl (Kd.int .i64) (some ⟨g1156, 0, none⟩) 1 l1157 :: Ro.sl (Kd.int .i64) (some ⟨g1156, 0, none⟩) 1 l1157 :: Ro.sl (Kd.int .u8) A6 C7 l5 :: rs) := hS.re [] [] rfl (sub_cons 0 rfl sub_self)
        obtain ⟨t1158, t1159, hc1165, H⟩ := b2_out H
        refine EL.of (EO.callD 44 [.slice (some ⟨g1156, 0, none⟩) l1157.length 1] _ 23 (by kernel_rfl) (by kernel_rfl) (by kernel_rfl) (future_New.calls hc1165 hS) ?_)
        rintro v w ⟨g1160, A1161, C1162, A1163, C1164, rfl, hS⟩
        refine EL.quick 1 [0, 1, 5] [(0, .slice A6 l5.length C7), (1, .int .i32 a8), (5, .pointer (some ⟨g1160, 0, none⟩))] (by kernel_rfl) ?_
        refine EL.done (by kernel_rfl) ?_
        refine EQ.code ?_
        refine EW.seq (x := Cd12.r.r.r.r.l) (y := Cd12.r.r.r.r.r) (by kernel_rfl) ?_
        refine EW.region (id := 6) (ops := Cd12.r.r.r.r.l.ops) (by kernel_rfl) ?_
        refine EL.quick 1 [0, 1, 5, 25] [(0, .slice A6 l5.length C7), (1, .int .i32 a8), (5, .pointer (some ⟨g1160, 0, none⟩)), (25, .pointer (some ⟨g1160, 0, none⟩))] (by kernel_rfl) ?_
        obtain ⟨t1172, t1173, t1174, hc1177, H⟩ := b3_out H
        refine EL.of (EO.callD 46 [.pointer (some ⟨g1160, 0, none⟩), .int .i64 0, .int .i64 0] _ 26 (by kernel_rfl) (by kernel_rfl) (by kernel_rfl) (future_Futures_Make.calls hc1177 hS) ?_)
        rintro v w ⟨A1175, C1176, rfl, hS⟩
        refine EL.quick 5 [0, 1, 5, 6, 7] [(0, .slice A6 l5.length C7), (1, .int .i32 a8), (5, .pointer (some ⟨g1160, 0, none⟩)), (6, .int .i32 t1173), (7, .bool (t1174))] (by kernel_rfl) ?_
        refine EL.done (by kernel_rfl) ?_
        refine EQ.code ?_
        refine EW.seq (x := Cd12.r.r.r.r.r.l) (y := Cd12.r.r.r.r.r.r) (by kernel_rfl) ?_
        refine EW.seq (x := Cd12.r.r.r.r.r.l.l) (y := Cd12.r.r.r.r.r.l.r) (by kernel_rfl) ?_
        refine EW.region (id := 7) (ops := Cd12.r.r.r.r.r.l.l.ops) (by kernel_rfl) ?_
        refine EL.quick 2 [0, 1, 5, 6, 30] [(0, .slice A6 l5.length C7), (1, .int .i32 a8), (5, .pointer (some ⟨g1160, 0, none⟩)), (6, .int .i32 t1173), (30, .bool (!(t1174)))] (by kernel_rfl) ?_
        refine EL.done (by kernel_rfl) ?_
        refine EQ.code ?_
        refine EW.condQ (b := !(t1174)) (o := (.tmp 30)) (x := Cd12.r.r.r.r.r.l.r.l) (y := Cd12.r.r.r.r.r.l.r.r) (t1174 = true) (false) (by kernel_rfl) (by kernel_rfl) ⟨fun h => (by rw [h] <;> rfl), fun h => (by rw [Bool.eq_false_iff.2 h] <;> rfl)⟩ (fun h1179 => ?_) (fun h1179 => ?_)
        · rw [if_pos h1179] at H
          refine EW.skip (by kernel_rfl) ?_
          refine EQ.code ?_
          obtain ⟨j1874, hj1874, H⟩ := lt_out H
          refine EW.cut (x := Cd12.r.r.r.r.r.r.l) (y := Cd12.r.r.r.r.r.r.r) (fun a w => ∃ x1871 : List (List S75), ∃ A1872 : Option Addr, ∃ C1873 : Nat, Sat 91 [(0, .slice A6 l5.length C7), (1, .int .i32 a8), (5, .pointer (some ⟨g1160, 0, none⟩)), (6, .int .i32 t1173)] a ∧ St B w (Ass.box 99 g1160 [.slice A1872 x1871.length C1873, .slice A1163 t1159.length C1164] :: Ass.deep 87 75 kS75 A1872 C1873 x1871 :: Ass.own 3 (Kd.int .i64) A1163 C1164 t1159 :: os) (Ro.sl (Kd.int .i64) (some ⟨g1156, 0, none⟩) 1 l1157 :: Ro.sl (Kd.int .i64) (some ⟨g1156, 0, none⟩) 1 l1157 :: Ro.sl (Kd.int .u8) A6 C7 l5 :: rs) ∧ j1874 x1871 = some x1121) (by kernel_rfl) ?_ (fun a w hI => ?_)
          · refine EW.seq (x := Cd12.r.r.r.r.r.r.l.l) (y := Cd12.r.r.r.r.r.r.l.r) (by kernel_rfl) ?_
            refine EW.region (id := 9) (ops := Cd12.r.r.r.r.r.r.l.l.ops) (by kernel_rfl) ?_
            refine EL.quick 1 [0, 1, 5, 6, 8] [(0, .slice A6 l5.length C7), (1, .int .i32 a8), (5, .pointer (some ⟨g1160, 0, none⟩)), (6, .int .i32 t1173), (8, .int .i64 0)] (by kernel_rfl) ?_
            refine EL.done (by kernel_rfl) ?_
            refine EQ.code ?_
            refine EW.block (x := Cd12.r.r.r.r.r.r.l.r.l) (id := 0) (by kernel_rfl) ?_
            refine EW.loop (x := Cd12.r.r.r.r.r.r.l.r.l.l) (fun n a w => ∃ x1983 : List (List S75), ∃ x1986 : Int, ∃ A1984 : Option Addr, ∃ C1985 : Nat, Sat 91 [(0, .slice A6 l5.length C7), (1, .int .i32 a8), (5, .pointer (some ⟨g1160, 0, none⟩)), (6, .int .i32 t1173), (8, .int .i64 x1986)] a ∧ St B w (Ass.box 99 g1160 [.slice A1984 x1983.length C1985, .slice A1163 t1159.length C1164] :: Ass.deep 87 75 kS75 A1984 C1985 x1983 :: Ass.own 3 (Kd.int .i64) A1163 C1164 t1159 :: os) (Ro.sl (Kd.int .i64) (some ⟨g1156, 0, none⟩) 1 l1157 :: Ro.sl (Kd.int .i64) (some ⟨g1156, 0, none⟩) 1 l1157 :: Ro.sl (Kd.int .u8) A6 C7 l5 :: rs) ∧ confidantlaw13_FutureOnce.l0 K l5 t1159 t1173 a8 j1874 n x1983 x1986 = some x1121) K (by kernel_rfl) ?_ (fun n a w hI => ?_)
            · refine EQ.keep [0, 1, 5, 6, 8] [(0, .slice A6 l5.length C7), (1, .int .i32 a8), (5, .pointer (some ⟨g1160, 0, none⟩)), (6, .int .i32 t1173), (8, .int .i64 0)] (by kernel_rfl) ?_
              exact fun a ha => ⟨t1172, 0, A1175, C1176, ha, (hS.re [2, 2, 2] [] rfl (sub_cons 0 rfl (sub_cons 0 rfl (sub_cons 2 rfl (sub_tail (sub_tail (sub_tail (sub_self)))))))), H⟩
            · obtain ⟨x1983, x1986, A1984, C1985, ha, hS, H⟩ := hI
              obtain _ | n := n
              · simp [confidantlaw13_FutureOnce.l0] at H
              rw [confidantlaw13_FutureOnce.l0.eq_2] at H
              refine EW.at ?_ a ha
              clear ha a
              refine EW.seq (x := Cd12.r.r.r.r.r.r.l.r.l.l.l) (y := Cd12.r.r.r.r.r.r.l.r.l.l.r) (by kernel_rfl) ?_
              refine EW.seq (x := Cd12.r.r.r.r.r.r.l.r.l.l.l.l) (y := Cd12.r.r.r.r.r.r.l.r.l.l.l.r) (by kernel_rfl) ?_
              refine EW.region (id := 10) (ops := Cd12.r.r.r.r.r.r.l.r.l.l.l.l.ops) (by kernel_rfl) ?_
              refine EL.quick 4 [0, 1, 5, 6, 8, 34] [(0, .slice A6 l5.length C7), (1, .int .i32 a8), (5, .pointer (some ⟨g1160, 0, none⟩)), (6, .int .i32 t1173), (8, .int .i64 x1986), (34, .bool (decide (x1986 < (l5.length : Int))))] (by kernel_rfl) ?_
              refine EL.done (by kernel_rfl) ?_
              refine EQ.code ?_
              refine EW.condP (o := (.tmp 34)) (x := Cd12.r.r.r.r.r.r.l.r.l.l.l.r.l) (y := Cd12.r.r.r.r.r.r.l.r.l.l.l.r.r) (x1986 < (l5.length : Int)) (by kernel_rfl) (by kernel_rfl) (fun h2108 => ?_) (fun h2108 => ?_)
              · rw [if_pos h2108] at H
                refine EW.skip (by kernel_rfl) ?_
                refine EQ.code ?_
                refine EW.seq (x := Cd12.r.r.r.r.r.r.l.r.l.l.r.l) (y := Cd12.r.r.r.r.r.r.l.r.l.l.r.r) (by kernel_rfl) ?_
                refine EW.block (x := Cd12.r.r.r.r.r.r.l.r.l.l.r.l.l) (id := 1) (by kernel_rfl) ?_
                refine EW.seq (x := Cd12.r.r.r.r.r.r.l.r.l.l.r.l.l.l) (y := Cd12.r.r.r.r.r.r.l.r.l.l.r.l.l.r) (by kernel_rfl) ?_
                refine EW.region (id := 12) (ops := Cd12.r.r.r.r.r.r.l.r.l.l.r.l.l.l.ops) (by kernel_rfl) ?_
                refine EL.quick 1 [0, 1, 5, 6, 8] [(0, .slice A6 l5.length C7), (1, .int .i32 a8), (5, .pointer (some ⟨g1160, 0, none⟩)), (6, .int .i32 t1173), (8, .int .i64 x1986)] (by kernel_rfl) ?_
                refine EL.done (by kernel_rfl) ?_
                refine EQ.code ?_
                obtain ⟨j2202, hj2202, H⟩ := lt_out H
                refine EW.cut (x := Cd12.r.r.r.r.r.r.l.r.l.l.r.l.l.r.l) (y := Cd12.r.r.r.r.r.r.l.r.l.l.r.l.l.r.r) (fun a w => ∃ x2198 : List (List S75), ∃ x2201 : Bool, ∃ A2199 : Option Addr, ∃ C2200 : Nat, Sat 91 [(0, .slice A6 l5.length C7), (1, .int .i32 a8), (5, .pointer (some ⟨g1160, 0, none⟩)), (6, .int .i32 t1173), (8, .int .i64 x1986), (9, .bool (x2201))] a ∧ St B w (Ass.box 99 g1160 [.slice A2199 x2198.length C2200, .slice A1163 t1159.length C1164] :: Ass.deep 87 75 kS75 A2199 C2200 x2198 :: Ass.own 3 (Kd.int .i64) A1163 C1164 t1159 :: os) (Ro.sl (Kd.int .i64) (some ⟨g1156, 0, none⟩) 1 l1157 :: Ro.sl (Kd.int .i64) (some ⟨g1156, 0, none⟩) 1 l1157 :: Ro.sl (Kd.int .u8) A6 C7 l5 :: rs) ∧ j2202 x2198 x2201 = some x1121) (by kernel_rfl) ?_ (fun a w hI => ?_)
                · refine EW.seq (x := Cd12.r.r.r.r.r.r.l.r.l.l.r.l.l.r.l.l) (y := Cd12.r.r.r.r.r.r.l.r.l.l.r.l.l.r.l.r) (by kernel_rfl) ?_
                  refine EW.region (id := 13) (ops := Cd12.r.r.r.r.r.r.l.r.l.l.r.l.l.r.l.l.ops) (by kernel_rfl) ?_
                  refine EL.quick 2 [0, 1, 5, 6, 8, 37, 38] [(0, .slice A6 l5.length C7), (1, .int .i32 a8), (5, .pointer (some ⟨g1160, 0, none⟩)), (6, .int .i32 t1173), (8, .int .i64 x1986), (37, .slice A6 l5.length C7), (38, .int .i64 x1986)] (by kernel_rfl) ?_
                  obtain ⟨h2205, H⟩ := ite_in H
                  obtain ⟨ad2206, rfl⟩ := St.rd_some hS (Rd.ro 2 rfl) h2205 h2108
                  refine EL.of (EO.Y (YO.idx 22 1 ad2206 l5.length C7 .i64 x1986 39 (by kernel_rfl) (by kernel_rfl) (by kernel_rfl) (by kernel_rfl) h2205 h2108) ?_)
                  refine EL.of (EO.Y (YO.loadEl hS (Kd.int .u8) ad2206 C7 l5 (Rd.ro 2 rfl) 0 (encI .u8) encI_of x1986 h2205 h2108 5 1 0 1 rfl (.int .u8 (l5.getD x1986.toNat 0)) 40 (by kernel_rfl) (by kernel_rfl) (by kernel_rfl) (by kernel_rfl)) ?_)
                  refine EL.quick 2 [0, 1, 5, 6, 8, 42] [(0, .slice (some ad2206) l5.length C7), (1, .int .i32 a8), (5, .pointer (some ⟨g1160, 0, none⟩)), (6, .int .i32 t1173), (8, .int .i64 x1986), (42, .bool (decide ((Int.tmod (l5.getD x1986.toNat 0) 2) = 0)))] (by kernel_rfl) ?_
                  refine EL.done (by kernel_rfl) ?_
                  refine EQ.code ?_
                  refine EW.condP (o := (.tmp 42)) (x := Cd12.r.r.r.r.r.r.l.r.l.l.r.l.l.r.l.r.l) (y := Cd12.r.r.r.r.r.r.l.r.l.l.r.l.l.r.l.r.r) ((Int.tmod (l5.getD x1986.toNat 0) 2) = 0) (by kernel_rfl) (by kernel_rfl) (fun h2207 => ?_) (fun h2207 => ?_)
                  · rw [if_pos h2207] at H
                    refine EW.region (id := 14) (ops := Cd12.r.r.r.r.r.r.l.r.l.l.r.l.l.r.l.r.l.ops) (by kernel_rfl) ?_
                    refine EL.quick 6 [0, 1, 5, 6, 8, 43, 44, 48] [(0, .slice (some ad2206) l5.length C7), (1, .int .i32 a8), (5, .pointer (some ⟨g1160, 0, none⟩)), (6, .int .i32 t1173), (8, .int .i64 x1986), (43, .pointer (some ⟨g1160, 0, none⟩)), (44, .int .i32 t1173), (48, .int .i32 (IntKind.i32.wrap (a8 + (IntKind.i32.wrap x1986))))] (by kernel_rfl) ?_
                    obtain ⟨t2208, t2209, hc2212, H⟩ := b2_out H
                    refine EL.of (EO.callD 48 [.pointer (some ⟨g1160, 0, none⟩), .int .i32 t1173, .int .i32 (IntKind.i32.wrap (a8 + (IntKind.i32.wrap x1986)))] _ 49 (by kernel_rfl) (by kernel_rfl) (by kernel_rfl) (future_Futures_Keep.calls hc2212 hS) ?_)
                    rintro v w ⟨A2210, C2211, rfl, hS⟩
                    refine EL.quick 1 [0, 1, 5, 6, 8, 9] [(0, .slice (some ad2206) l5.length C7), (1, .int .i32 a8), (5, .pointer (some ⟨g1160, 0, none⟩)), (6, .int .i32 t1173), (8, .int .i64 x1986), (9, .bool (t2209))] (by kernel_rfl) ?_
                    refine EL.done (by kernel_rfl) ?_
                    refine EQ.to ?_
                    refine EQ.keep [0, 1, 5, 6, 8, 9] [(0, .slice (some ad2206) l5.length C7), (1, .int .i32 a8), (5, .pointer (some ⟨g1160, 0, none⟩)), (6, .int .i32 t1173), (8, .int .i64 x1986), (9, .bool (t2209))] (by kernel_rfl) ?_
                    exact fun a ha => ⟨t2208, t2209, A2210, C2211, ha, (hS.re [2, 2, 2] [] rfl (sub_cons 0 rfl (sub_cons 0 rfl (sub_cons 2 rfl (sub_tail (sub_tail (sub_tail (sub_self)))))))), H⟩
                  · rw [if_neg h2207] at H
                    refine EW.region (id := 15) (ops := Cd12.r.r.r.r.r.r.l.r.l.l.r.l.l.r.l.r.r.ops) (by kernel_rfl) ?_
                    refine EL.quick 4 [0, 1, 5, 6, 8, 50, 51, 53] [(0, .slice (some ad2206) l5.length C7), (1, .int .i32 a8), (5, .pointer (some ⟨g1160, 0, none⟩)), (6, .int .i32 t1173), (8, .int .i64 x1986), (50, .pointer (some ⟨g1160, 0, none⟩)), (51, .int .i32 t1173), (53, .int .i64 (IntKind.i64.wrap (x1986 + 1)))] (by kernel_rfl) ?_
                    obtain ⟨t2213, t2214, hc2217, H⟩ := b2_out H
                    refine EL.of (EO.callD 50 [.pointer (some ⟨g1160, 0, none⟩), .int .i32 t1173, .int .i64 (IntKind.i64.wrap (x1986 + 1))] _ 54 (by kernel_rfl) (by kernel_rfl) (by kernel_rfl) (future_Futures_Break.calls hc2217 hS) ?_)
                    rintro v w ⟨A2215, C2216, rfl, hS⟩
                    refine EL.quick 1 [0, 1, 5, 6, 8, 9] [(0, .slice (some ad2206) l5.length C7), (1, .int .i32 a8), (5, .pointer (some ⟨g1160, 0, none⟩)), (6, .int .i32 t1173), (8, .int .i64 x1986), (9, .bool (t2214))] (by kernel_rfl) ?_
                    refine EL.done (by kernel_rfl) ?_
                    refine EQ.to ?_
                    refine EQ.keep [0, 1, 5, 6, 8, 9] [(0, .slice (some ad2206) l5.length C7), (1, .int .i32 a8), (5, .pointer (some ⟨g1160, 0, none⟩)), (6, .int .i32 t1173), (8, .int .i64 x1986), (9, .bool (t2214))] (by kernel_rfl) ?_
                    exact fun a ha => ⟨t2213, t2214, A2215, C2216, ha, (hS.re [2, 2, 2] [] rfl (sub_cons 0 rfl (sub_cons 0 rfl (sub_cons 2 rfl (sub_tail (sub_tail (sub_tail (sub_self)))))))), H⟩
                · obtain ⟨x2198, x2201, A2199, C2200, ha, hS, H⟩ := hI
                  rw [hj2202] at H
                  (try dsimp only at H)
                  refine EW.at ?_ a ha
                  clear ha a
                  refine EW.seq (x := Cd12.r.r.r.r.r.r.l.r.l.l.r.l.l.r.r.l) (y := Cd12.r.r.r.r.r.r.l.r.l.l.r.l.l.r.r.r) (by kernel_rfl) ?_
                  refine EW.region (id := 16) (ops := Cd12.r.r.r.r.r.r.l.r.l.l.r.l.l.r.r.l.ops) (by kernel_rfl) ?_
                  refine EL.quick 4 [0, 1, 5, 6, 8, 58] [(0, .slice A6 l5.length C7), (1, .int .i32 a8), (5, .pointer (some ⟨g1160, 0, none⟩)), (6, .int .i32 t1173), (8, .int .i64 x1986), (58, .bool (!((x2201 == (decide (x1986 = 0))))))] (by kernel_rfl) ?_
                  refine EL.done (by kernel_rfl) ?_
                  refine EQ.code ?_
                  refine EW.condQ (b := !((x2201 == (decide (x1986 = 0))))) (o := (.tmp 58)) (x := Cd12.r.r.r.r.r.r.l.r.l.l.r.l.l.r.r.r.l) (y := Cd12.r.r.r.r.r.r.l.r.l.l.r.l.l.r.r.r.r) ((x2201 == (decide (x1986 = 0))) = true) (false) (by kernel_rfl) (by kernel_rfl) ⟨fun h => (by rw [h] <;> rfl), fun h => (by rw [Bool.eq_false_iff.2 h] <;> rfl)⟩ (fun h2218 => ?_) (fun h2218 => ?_)
                  · rw [if_pos h2218] at H
                    refine EW.skip (by kernel_rfl) ?_
                    refine EQ.pop ?_
                    refine EQ.code ?_
                    refine EW.region (id := 11) (ops := Cd12.r.r.r.r.r.r.l.r.l.l.r.r.ops) (by kernel_rfl) ?_
                    refine EL.quick 3 [0, 1, 5, 6, 8] [(0, .slice A6 l5.length C7), (1, .int .i32 a8), (5, .pointer (some ⟨g1160, 0, none⟩)), (6, .int .i32 t1173), (8, .int .i64 (IntKind.i64.wrap (x1986 + 1)))] (by kernel_rfl) ?_
                    refine EL.done (by kernel_rfl) ?_
                    refine EQ.to ?_
                    refine EQ.keep [0, 1, 5, 6, 8] [(0, .slice A6 l5.length C7), (1, .int .i32 a8), (5, .pointer (some ⟨g1160, 0, none⟩)), (6, .int .i32 t1173), (8, .int .i64 (IntKind.i64.wrap (x1986 + 1)))] (by kernel_rfl) ?_
                    exact fun a ha => ⟨n, Nat.lt_succ_self n, x2198, IntKind.i64.wrap (x1986 + 1), A2199, C2200, ha, (hS.re [2, 2, 2] [] rfl (sub_cons 0 rfl (sub_cons 0 rfl (sub_cons 2 rfl (sub_tail (sub_tail (sub_tail (sub_self)))))))), H⟩
                  · rw [if_neg h2218] at H
                    refine EW.seq (x := Cd12.r.r.r.r.r.r.l.r.l.l.r.l.l.r.r.r.l.l) (y := Cd12.r.r.r.r.r.r.l.r.l.l.r.l.l.r.r.r.l.r) (by kernel_rfl) ?_
                    refine EW.region (id := 17) (ops := Cd12.r.r.r.r.r.r.l.r.l.l.r.l.l.r.r.r.l.l.ops) (by kernel_rfl) ?_
                    refine EL.quick 1 [4] [(4, .bool (false))] (by kernel_rfl) ?_
                    refine EL.done (by kernel_rfl) ?_
                    refine EQ.code ?_
                    refine EW.ret (by kernel_rfl) ?_
                    refine EQ.ret ?_
                    refine EQ.ret ?_
                    refine EQ.ret ?_
                    refine EQ.ret ?_
                    refine EQ.ret ?_
                    obtain rfl := Option.some.inj H
                    exact EQ.leave (.bool (false)) (by kernel_rfl) ⟨_, rfl, rfl, (hS.re [] [0, 0, 0] rfl (sub_tail (sub_tail (sub_self))))⟩
              · rw [if_neg h2108] at H
                refine EW.exit (id := 0) (by kernel_rfl) ?_
                refine EQ.exitCode ?_
                refine EQ.exitTo ?_
                refine EQ.exitHere ?_
                refine EQ.to ?_
                refine EQ.keep [0, 1, 5, 6] [(0, .slice A6 l5.length C7), (1, .int .i32 a8), (5, .pointer (some ⟨g1160, 0, none⟩)), (6, .int .i32 t1173)] (by kernel_rfl) ?_
                exact fun a ha => ⟨x1983, A1984, C1985, ha, (hS.re [2, 2, 2] [] rfl (sub_cons 0 rfl (sub_cons 0 rfl (sub_cons 2 rfl (sub_tail (sub_tail (sub_tail (sub_self)))))))), H⟩
          · obtain ⟨x1871, A1872, C1873, ha, hS, H⟩ := hI
            rw [hj1874] at H
            (try dsimp only at H)
            refine EW.at ?_ a ha
            clear ha a
            refine EW.seq (x := Cd12.r.r.r.r.r.r.r.l) (y := Cd12.r.r.r.r.r.r.r.r) (by kernel_rfl) ?_
            refine EW.region (id := 18) (ops := Cd12.r.r.r.r.r.r.r.l.ops) (by kernel_rfl) ?_
            refine EL.quick 2 [0, 1, 60, 61] [(0, .slice A6 l5.length C7), (1, .int .i32 a8), (60, .pointer (some ⟨g1160, 0, none⟩)), (61, .int .i32 t1173)] (by kernel_rfl) ?_
            obtain ⟨t2223, t2224, hc2225, H⟩ := b2_out H
            refine EL.of (EO.callD 52 [.pointer (some ⟨g1160, 0, none⟩), .int .i32 t1173] _ 62 (by kernel_rfl) (by kernel_rfl) (by kernel_rfl) (future_Futures_Get.calls hc2225 hS) ?_)
            rintro v w ⟨rfl, hS⟩
            refine EL.quick 3 [0, 1, 63, 64] [(0, .slice A6 l5.length C7), (1, .int .i32 a8), (63, .agg #[.int .i64 t2223.f0, .int .i64 t2223.f1, .int .i32 t2223.f2, .int .i64 t2223.f3]), (64, .bool (t2224))] (by kernel_rfl) ?_
            refine EL.of (EO.alloc hS 75 (.agg #[.int .i64 0, .int .i64 0, .int .i32 0, .int .i64 0]) [.int .i64 0, .int .i64 0, .int .i32 0, .int .i64 0] 10 (by kernel_rfl) (by kernel_rfl) (by kernel_rfl) (by kernel_rfl) (by first | rfl | kernel_rfl) ?_)
            intro g2226 w hS
            refine EL.of (EO.storeBox (os' := Ass.box 75 g2226 [.int .i64 t2223.f0, .int .i64 t2223.f1, .int .i32 t2223.f2, .int .i64 t2223.f3] :: Ass.box 99 g1160 [.slice A1872 x1871.length C1873, .slice A1163 t1159.length C1164] :: Ass.deep 87 75 kS75 A1872 C1873 x1871 :: Ass.own 3 (Kd.int .i64) A1163 C1164 t1159 :: os) hS 0 rfl 75 0 (.agg #[.int .i64 t2223.f0, .int .i64 t2223.f1, .int .i32 t2223.f2, .int .i64 t2223.f3]) [.int .i64 t2223.f0, .int .i64 t2223.f1, .int .i32 t2223.f2, .int .i64 t2223.f3] (by kernel_rfl) (by kernel_rfl) (by kernel_rfl) (by kernel_rfl) (by kernel_rfl) (by kernel_rfl) rfl rfl ?_)
            intro w hS
            refine EL.quick 1 [0, 1, 10, 11] [(0, .slice A6 l5.length C7), (1, .int .i32 a8), (10, .pointer (some ⟨g2226, 0, none⟩)), (11, .bool (t2224))] (by kernel_rfl) ?_
            refine EL.done (by kernel_rfl) ?_
            refine EQ.code ?_
            refine EW.seq (x := Cd12.r.r.r.r.r.r.r.r.l) (y := Cd12.r.r.r.r.r.r.r.r.r) (by kernel_rfl) ?_
            refine EW.region (id := 19) (ops := Cd12.r.r.r.r.r.r.r.r.l.ops) (by kernel_rfl) ?_
            refine EL.quick 2 [0, 1, 10, 66] [(0, .slice A6 l5.length C7), (1, .int .i32 a8), (10, .pointer (some ⟨g2226, 0, none⟩)), (66, .bool (t2224))] (by kernel_rfl) ?_
            by_cases h2227 : t2224 = true
            · rw [if_pos h2227] at H
              refine EL.keep [0, 1, 10, 66] [(0, .slice A6 l5.length C7), (1, .int .i32 a8), (10, .pointer (some ⟨g2226, 0, none⟩)), (66, .bool (t2224))] (by kernel_rfl) ?_
              refine EL.as' [(0, .slice A6 l5.length C7), (1, .int .i32 a8), (10, .pointer (some ⟨g2226, 0, none⟩)), (66, .bool (true))] (by simp only [h2227, Bool.not_true, Bool.not_false]) ?_
              refine EL.quick 1 [0, 1, 10, 66, 67] [(0, .slice A6 l5.length C7), (1, .int .i32 a8), (10, .pointer (some ⟨g2226, 0, none⟩)), (66, .bool (true)), (67, .slice A6 l5.length C7)] (by kernel_rfl) ?_
              obtain ⟨h2228, H⟩ := ite_in H
              obtain ⟨ad2229, rfl⟩ := St.rd_some hS (Rd.ro 2 rfl) (by decide) h2228
              refine EL.of (EO.Y (YO.idx 22 1 ad2229 l5.length C7 .i64 0 68 (by kernel_rfl) (by kernel_rfl) (by kernel_rfl) (by kernel_rfl) (by decide) h2228) ?_)
              refine EL.of (EO.Y (YO.loadEl hS (Kd.int .u8) ad2229 C7 l5 (Rd.ro 2 rfl) 0 (encI .u8) encI_of 0 (by decide) h2228 5 1 0 1 rfl (.int .u8 (l5.getD (0 : Int).toNat 0)) 69 (by kernel_rfl) (by kernel_rfl) (by kernel_rfl) (by kernel_rfl)) ?_)
              refine EL.quick 3 [0, 1, 10, 66, 72] [(0, .slice (some ad2229) l5.length C7), (1, .int .i32 a8), (10, .pointer (some ⟨g2226, 0, none⟩)), (66, .bool (true)), (72, .bool (decide ((Int.tmod (l5.getD (0 : Int).toNat 0) 2) = 0)))] (by kernel_rfl) ?_
              by_cases h2230 : (Int.tmod (l5.getD (0 : Int).toNat 0) 2) = 0
              · rw [if_pos h2230] at H
                refine EL.keep [0, 1, 10, 66, 72] [(0, .slice (some ad2229) l5.length C7), (1, .int .i32 a8), (10, .pointer (some ⟨g2226, 0, none⟩)), (66, .bool (true)), (72, .bool (decide ((Int.tmod (l5.getD (0 : Int).toNat 0) 2) = 0)))] (by kernel_rfl) ?_
                refine EL.as' [(0, .slice (some ad2229) l5.length C7), (1, .int .i32 a8), (10, .pointer (some ⟨g2226, 0, none⟩)), (66, .bool (true)), (72, .bool (true))] (by simp only [dec_t h2230, Bool.not_true, Bool.not_false]) ?_
                refine EL.of (EO.Y (YO.loadBox hS 0 rfl 75 0 4 (.agg #[.int .i64 t2223.f0, .int .i64 t2223.f1, .int .i32 t2223.f2, .int .i64 t2223.f3]) 73 (by kernel_rfl) (by kernel_rfl) (by kernel_rfl) (by kernel_rfl)) ?_)
                refine EL.quick 2 [0, 10, 66, 72, 73, 75] [(0, .slice (some ad2229) l5.length C7), (10, .pointer (some ⟨g2226, 0, none⟩)), (66, .bool (true)), (72, .bool (true)), (73, .agg #[.int .i64 t2223.f0, .int .i64 t2223.f1, .int .i32 t2223.f2, .int .i64 t2223.f3]), (75, .agg #[.int .i64 0, .int .i64 1, .int .i32 a8, .int .i64 0])] (by kernel_rfl) ?_
                refine EL.of (EO.Y (YO.eqAg .eql 75 (.tmp 73) (.tmp 75) #[.int .i64 t2223.f0, .int .i64 t2223.f1, .int .i32 t2223.f2, .int .i64 t2223.f3] #[.int .i64 0, .int .i64 1, .int .i32 a8, .int .i64 0] ((t2223.f0 == (0 : Int)) && ((t2223.f1 == (1 : Int)) && ((t2223.f2 == a8) && ((t2223.f3 == (0 : Int)) && true)))) (((t2223.f0 == (0 : Int)) && ((t2223.f1 == (1 : Int)) && ((t2223.f2 == a8) && ((t2223.f3 == (0 : Int)) && true))))) 76 (by kernel_rfl) (by kernel_rfl) (by kernel_rfl) (by kernel_rfl) (by kernel_rfl) (.inl ⟨rfl, rfl⟩)) ?_)
                refine EL.quick 2 [0, 10, 66, 78] [(0, .slice (some ad2229) l5.length C7), (10, .pointer (some ⟨g2226, 0, none⟩)), (66, .bool (true)), (78, .bool (((t2223.f0 == (0 : Int)) && ((t2223.f1 == (1 : Int)) && ((t2223.f2 == a8) && ((t2223.f3 == (0 : Int)) && true))))))] (by kernel_rfl) ?_
                by_cases h2231 : ((t2223.f0 == (0 : Int)) && ((t2223.f1 == (1 : Int)) && ((t2223.f2 == a8) && ((t2223.f3 == (0 : Int)) && true)))) = true
                · rw [if_pos h2231] at H
                  refine EL.keep [0, 10, 66, 78] [(0, .slice (some ad2229) l5.length C7), (10, .pointer (some ⟨g2226, 0, none⟩)), (66, .bool (true)), (78, .bool (((t2223.f0 == (0 : Int)) && ((t2223.f1 == (1 : Int)) && ((t2223.f2 == a8) && ((t2223.f3 == (0 : Int)) && true))))))] (by kernel_rfl) ?_
                  refine EL.as' [(0, .slice (some ad2229) l5.length C7), (10, .pointer (some ⟨g2226, 0, none⟩)), (66, .bool (true)), (78, .bool (true))] (by simp only [h2231, Bool.not_true, Bool.not_false]) ?_
                  refine EL.quick 13 [4] [(4, .bool (true))] (by kernel_rfl) ?_
                  refine EL.done (by kernel_rfl) ?_
                  refine EQ.code ?_
                  refine EW.ret (by kernel_rfl) ?_
                  obtain rfl := Option.some.inj H
                  exact EQ.leave (.bool (true)) (by kernel_rfl) ⟨_, rfl, rfl, (hS.re [] [0, 0, 0, 0] rfl (sub_tail (sub_tail (sub_self))))⟩
                · rw [if_neg h2231] at H
                  refine EL.keep [0, 10, 66, 78] [(0, .slice (some ad2229) l5.length C7), (10, .pointer (some ⟨g2226, 0, none⟩)), (66, .bool (true)), (78, .bool (((t2223.f0 == (0 : Int)) && ((t2223.f1 == (1 : Int)) && ((t2223.f2 == a8) && ((t2223.f3 == (0 : Int)) && true))))))] (by kernel_rfl) ?_
                  refine EL.as' [(0, .slice (some ad2229) l5.length C7), (10, .pointer (some ⟨g2226, 0, none⟩)), (66, .bool (true)), (78, .bool (false))] (by simp only [(Bool.eq_false_iff.2 h2231), Bool.not_true, Bool.not_false]) ?_
                  refine EL.quick 1 [10, 66, 78, 79] [(10, .pointer (some ⟨g2226, 0, none⟩)), (66, .bool (true)), (78, .bool (false)), (79, .slice (some ad2229) l5.length C7)] (by kernel_rfl) ?_
                  refine EL.of (EO.Y (YO.idx 22 1 ad2229 l5.length C7 .i64 0 80 (by kernel_rfl) (by kernel_rfl) (by kernel_rfl) (by kernel_rfl) (by decide) h2228) ?_)
                  refine EL.of (EO.Y (YO.loadEl hS (Kd.int .u8) ad2229 C7 l5 (Rd.ro 2 rfl) 0 (encI .u8) encI_of 0 (by decide) h2228 5 1 0 1 rfl (.int .u8 (l5.getD (0 : Int).toNat 0)) 81 (by kernel_rfl) (by kernel_rfl) (by kernel_rfl) (by kernel_rfl)) ?_)
                  refine EL.quick 3 [10, 66, 78, 84] [(10, .pointer (some ⟨g2226, 0, none⟩)), (66, .bool (true)), (78, .bool (false)), (84, .bool (decide ((Int.tmod (l5.getD (0 : Int).toNat 0) 2) = 1)))] (by kernel_rfl) ?_
                  by_cases h2232 : (Int.tmod (l5.getD (0 : Int).toNat 0) 2) = 1
                  · rw [if_pos h2232] at H
                    refine EL.keep [10, 66, 78, 84] [(10, .pointer (some ⟨g2226, 0, none⟩)), (66, .bool (true)), (78, .bool (false)), (84, .bool (decide ((Int.tmod (l5.getD (0 : Int).toNat 0) 2) = 1)))] (by kernel_rfl) ?_
                    refine EL.as' [(10, .pointer (some ⟨g2226, 0, none⟩)), (66, .bool (true)), (78, .bool (false)), (84, .bool (true))] (by simp only [dec_t h2232, Bool.not_true, Bool.not_false]) ?_
                    refine EL.of (EO.Y (YO.loadBox hS 0 rfl 75 0 4 (.agg #[.int .i64 t2223.f0, .int .i64 t2223.f1, .int .i32 t2223.f2, .int .i64 t2223.f3]) 85 (by kernel_rfl) (by kernel_rfl) (by kernel_rfl) (by kernel_rfl)) ?_)
                    refine EL.quick 1 [66, 78, 84, 85, 86] [(66, .bool (true)), (78, .bool (false)), (84, .bool (true)), (85, .agg #[.int .i64 t2223.f0, .int .i64 t2223.f1, .int .i32 t2223.f2, .int .i64 t2223.f3]), (86, .agg #[.int .i64 0, .int .i64 2, .int .i32 0, .int .i64 1])] (by kernel_rfl) ?_
                    refine EL.of (EO.Y (YO.eqAg .eql 75 (.tmp 85) (.tmp 86) #[.int .i64 t2223.f0, .int .i64 t2223.f1, .int .i32 t2223.f2, .int .i64 t2223.f3] #[.int .i64 0, .int .i64 2, .int .i32 0, .int .i64 1] ((t2223.f0 == (0 : Int)) && ((t2223.f1 == (2 : Int)) && ((t2223.f2 == (0 : Int)) && ((t2223.f3 == (1 : Int)) && true)))) (((t2223.f0 == (0 : Int)) && ((t2223.f1 == (2 : Int)) && ((t2223.f2 == (0 : Int)) && ((t2223.f3 == (1 : Int)) && true))))) 87 (by kernel_rfl) (by kernel_rfl) (by kernel_rfl) (by kernel_rfl) (by kernel_rfl) (.inl ⟨rfl, rfl⟩)) ?_)
                    refine EL.quick 4 [4] [(4, .bool (((t2223.f0 == (0 : Int)) && ((t2223.f1 == (2 : Int)) && ((t2223.f2 == (0 : Int)) && ((t2223.f3 == (1 : Int)) && true))))))] (by kernel_rfl) ?_
                    refine EL.done (by kernel_rfl) ?_
                    refine EQ.code ?_
                    refine EW.ret (by kernel_rfl) ?_
                    obtain rfl := Option.some.inj H
                    exact EQ.leave (.bool (((t2223.f0 == (0 : Int)) && ((t2223.f1 == (2 : Int)) && ((t2223.f2 == (0 : Int)) && ((t2223.f3 == (1 : Int)) && true)))))) (by kernel_rfl) ⟨_, rfl, rfl, (hS.re [] [0, 0, 0, 0] rfl (sub_tail (sub_tail (sub_self))))⟩
                  · rw [if_neg h2232] at H
                    refine EL.keep [10, 66, 78, 84] [(10, .pointer (some ⟨g2226, 0, none⟩)), (66, .bool (true)), (78, .bool (false)), (84, .bool (decide ((Int.tmod (l5.getD (0 : Int).toNat 0) 2) = 1)))] (by kernel_rfl) ?_
                    refine EL.as' [(10, .pointer (some ⟨g2226, 0, none⟩)), (66, .bool (true)), (78, .bool (false)), (84, .bool (false))] (by simp only [dec_f h2232, Bool.not_true, Bool.not_false]) ?_
                    refine EL.quick 7 [4] [(4, .bool (false))] (by kernel_rfl) ?_
                    refine EL.done (by kernel_rfl) ?_
                    refine EQ.code ?_
                    refine EW.ret (by kernel_rfl) ?_
                    obtain rfl := Option.some.inj H
                    exact EQ.leave (.bool (false)) (by kernel_rfl) ⟨_, rfl, rfl, (hS.re [] [0, 0, 0, 0] rfl (sub_tail (sub_tail (sub_self))))⟩
              · rw [if_neg h2230] at H
                refine EL.keep [0, 1, 10, 66, 72] [(0, .slice (some ad2229) l5.length C7), (1, .int .i32 a8), (10, .pointer (some ⟨g2226, 0, none⟩)), (66, .bool (true)), (72, .bool (decide ((Int.tmod (l5.getD (0 : Int).toNat 0) 2) = 0)))] (by kernel_rfl) ?_
                refine EL.as' [(0, .slice (some ad2229) l5.length C7), (1, .int .i32 a8), (10, .pointer (some ⟨g2226, 0, none⟩)), (66, .bool (true)), (72, .bool (false))] (by simp only [dec_f h2230, Bool.not_true, Bool.not_false]) ?_
                refine EL.quick 7 [10, 66, 78, 79] [(10, .pointer (some ⟨g2226, 0, none⟩)), (66, .bool (true)), (78, .bool (false)), (79, .slice (some ad2229) l5.length C7)] (by kernel_rfl) ?_
                refine EL.of (EO.Y (YO.idx 22 1 ad2229 l5.length C7 .i64 0 80 (by kernel_rfl) (by kernel_rfl) (by kernel_rfl) (by kernel_rfl) (by decide) h2228) ?_)
                refine EL.of (EO.Y (YO.loadEl hS (Kd.int .u8) ad2229 C7 l5 (Rd.ro 2 rfl) 0 (encI .u8) encI_of 0 (by decide) h2228 5 1 0 1 rfl (.int .u8 (l5.getD (0 : Int).toNat 0)) 81 (by kernel_rfl) (by kernel_rfl) (by kernel_rfl) (by kernel_rfl)) ?_)
                refine EL.quick 3 [10, 66, 78, 84] [(10, .pointer (some ⟨g2226, 0, none⟩)), (66, .bool (true)), (78, .bool (false)), (84, .bool (decide ((Int.tmod (l5.getD (0 : Int).toNat 0) 2) = 1)))] (by kernel_rfl) ?_
                by_cases h2233 : (Int.tmod (l5.getD (0 : Int).toNat 0) 2) = 1
                · rw [if_pos h2233] at H
                  refine EL.keep [10, 66, 78, 84] [(10, .pointer (some ⟨g2226, 0, none⟩)), (66, .bool (true)), (78, .bool (false)), (84, .bool (decide ((Int.tmod (l5.getD (0 : Int).toNat 0) 2) = 1)))] (by kernel_rfl) ?_
                  refine EL.as' [(10, .pointer (some ⟨g2226, 0, none⟩)), (66, .bool (true)), (78, .bool (false)), (84, .bool (true))] (by simp only [dec_t h2233, Bool.not_true, Bool.not_false]) ?_
                  refine EL.of (EO.Y (YO.loadBox hS 0 rfl 75 0 4 (.agg #[.int .i64 t2223.f0, .int .i64 t2223.f1, .int .i32 t2223.f2, .int .i64 t2223.f3]) 85 (by kernel_rfl) (by kernel_rfl) (by kernel_rfl) (by kernel_rfl)) ?_)
                  refine EL.quick 1 [66, 78, 84, 85, 86] [(66, .bool (true)), (78, .bool (false)), (84, .bool (true)), (85, .agg #[.int .i64 t2223.f0, .int .i64 t2223.f1, .int .i32 t2223.f2, .int .i64 t2223.f3]), (86, .agg #[.int .i64 0, .int .i64 2, .int .i32 0, .int .i64 1])] (by kernel_rfl) ?_
                  refine EL.of (EO.Y (YO.eqAg .eql 75 (.tmp 85) (.tmp 86) #[.int .i64 t2223.f0, .int .i64 t2223.f1, .int .i32 t2223.f2, .int .i64 t2223.f3] #[.int .i64 0, .int .i64 2, .int .i32 0, .int .i64 1] ((t2223.f0 == (0 : Int)) && ((t2223.f1 == (2 : Int)) && ((t2223.f2 == (0 : Int)) && ((t2223.f3 == (1 : Int)) && true)))) (((t2223.f0 == (0 : Int)) && ((t2223.f1 == (2 : Int)) && ((t2223.f2 == (0 : Int)) && ((t2223.f3 == (1 : Int)) && true))))) 87 (by kernel_rfl) (by kernel_rfl) (by kernel_rfl) (by kernel_rfl) (by kernel_rfl) (.inl ⟨rfl, rfl⟩)) ?_)
                  refine EL.quick 4 [4] [(4, .bool (((t2223.f0 == (0 : Int)) && ((t2223.f1 == (2 : Int)) && ((t2223.f2 == (0 : Int)) && ((t2223.f3 == (1 : Int)) && true))))))] (by kernel_rfl) ?_
                  refine EL.done (by kernel_rfl) ?_
                  refine EQ.code ?_
                  refine EW.ret (by kernel_rfl) ?_
                  obtain rfl := Option.some.inj H
                  exact EQ.leave (.bool (((t2223.f0 == (0 : Int)) && ((t2223.f1 == (2 : Int)) && ((t2223.f2 == (0 : Int)) && ((t2223.f3 == (1 : Int)) && true)))))) (by kernel_rfl) ⟨_, rfl, rfl, (hS.re [] [0, 0, 0, 0] rfl (sub_tail (sub_tail (sub_self))))⟩
                · rw [if_neg h2233] at H
                  refine EL.keep [10, 66, 78, 84] [(10, .pointer (some ⟨g2226, 0, none⟩)), (66, .bool (true)), (78, .bool (false)), (84, .bool (decide ((Int.tmod (l5.getD (0 : Int).toNat 0) 2) = 1)))] (by kernel_rfl) ?_
                  refine EL.as' [(10, .pointer (some ⟨g2226, 0, none⟩)), (66, .bool (true)), (78, .bool (false)), (84, .bool (false))] (by simp only [dec_f h2233, Bool.not_true, Bool.not_false]) ?_
                  refine EL.quick 7 [4] [(4, .bool (false))] (by kernel_rfl) ?_
                  refine EL.done (by kernel_rfl) ?_
                  refine EQ.code ?_
                  refine EW.ret (by kernel_rfl) ?_
                  obtain rfl := Option.some.inj H
                  exact EQ.leave (.bool (false)) (by kernel_rfl) ⟨_, rfl, rfl, (hS.re [] [0, 0, 0, 0] rfl (sub_tail (sub_tail (sub_self))))⟩
            · rw [if_neg h2227] at H
              refine EL.keep [0, 1, 10, 66] [(0, .slice A6 l5.length C7), (1, .int .i32 a8), (10, .pointer (some ⟨g2226, 0, none⟩)), (66, .bool (t2224))] (by kernel_rfl) ?_
              refine EL.as' [(0, .slice A6 l5.length C7), (1, .int .i32 a8), (10, .pointer (some ⟨g2226, 0, none⟩)), (66, .bool (false))] (by simp only [(Bool.eq_false_iff.2 h2227), Bool.not_true, Bool.not_false]) ?_
              refine EL.quick 25 [4] [(4, .bool (false))] (by kernel_rfl) ?_
              refine EL.done (by kernel_rfl) ?_
              refine EQ.code ?_
              refine EW.ret (by kernel_rfl) ?_
              obtain rfl := Option.some.inj H
              exact EQ.leave (.bool (false)) (by kernel_rfl) ⟨_, rfl, rfl, (hS.re [] [0, 0, 0, 0] rfl (sub_tail (sub_tail (sub_self))))⟩
        · rw [if_neg h1179] at H
          refine EW.seq (x := Cd12.r.r.r.r.r.l.r.l.l) (y := Cd12.r.r.r.r.r.l.r.l.r) (by kernel_rfl) ?_
          refine EW.region (id := 8) (ops := Cd12.r.r.r.r.r.l.r.l.l.ops) (by kernel_rfl) ?_
          refine EL.quick 1 [4] [(4, .bool (false))] (by kernel_rfl) ?_
          refine EL.done (by kernel_rfl) ?_
          refine EQ.code ?_
          refine EW.ret (by kernel_rfl) ?_
          refine EQ.ret ?_
          obtain rfl := Option.some.inj H
          exact EQ.leave (.bool (false)) (by kernel_rfl) ⟨_, rfl, rfl, (hS.re [] [0, 0, 0] rfl (sub_tail (sub_tail (sub_self))))⟩
  · rw [if_neg h1131] at H
    refine EW.seq (x := Cd12.r.l.r.l.l) (y := Cd12.r.l.r.l.r) (by kernel_rfl) ?_
    refine EW.region (id := 2) (ops := Cd12.r.l.r.l.l.ops) (by kernel_rfl) ?_
    refine EL.quick 1 [4] [(4, .bool (false))] (by kernel_rfl) ?_
    refine EL.done (by kernel_rfl) ?_
    refine EQ.code ?_
    refine EW.ret (by kernel_rfl) ?_
    refine EQ.ret ?_
    obtain rfl := Option.some.inj H
    exact EQ.leave (.bool (false)) (by kernel_rfl) ⟨_, rfl, rfl, (hS.re [] [] rfl (sub_self))⟩

def confidantlaw13_FutureOnce.Pure : Prop := ∀ (l5 : List Int) (a8 : Int), l5.length * 1 ≤ 140737488351232 → (∀ x ∈ l5, (Lit.int .u8 x).wf = true) → (Lit.int .i32 a8).wf = true → ∃ K, confidantlaw13_FutureOnce.f K l5 a8 = some true

end Go.Proofs.Ytjfnejcanlkknaa.G
