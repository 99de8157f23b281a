import Derived.Test.YtipaaapbapijhaaProg
import Derived.Test.YtipaaapbapijhaaFwEq
import Derived.Test.YtipaaapbapijhaaFwOpen
import Derived.Test.YtipaaapbapijhaaG0
namespace Go.Proofs.Ytipaaapbapijhaa.G
open Go Go.Fw Go.RowKit Go.Proofs
set_option linter.unusedVariables false
set_option linter.unusedSimpArgs false

/-! ### confidant/park.New: function 12 -/
def park_New.f (K : Nat)  : Option (List S60) := some ([] : List S60)
set_option maxRecDepth 100000 in
theorem park_New.calls {K : Nat} {a1 : List S60} {B w : World} {os : List Ass} {rs : List Ro} (H : park_New.f K = some a1) (hS : St B w (os) (rs)) :
  Calls Try.prog 12 [].toArray w (fun en w' => ∃ v, en = .returned v ∧ ∃ a4 : Nat, ∃ a2 : Option Addr, ∃ a3 : Nat, v = .pointer (some ⟨a4, 0, none⟩) ∧ St B w' (Ass.box 93 a4 [.slice a2 a1.length a3] :: Ass.own 60 kS60 a2 a3 a1 :: os) (rs)) := by
 unfold park_New.f at H
 refine calls_of_EW (args := []) (c := Cd12) 3 Try.func12 (by kernel_rfl) (by kernel_rfl) (by kernel_rfl) ?_
 refine EW.seq (x := Cd12.l) (y := Cd12.r) (by kernel_rfl) ?_
 refine EW.region (id := 0) (ops := Cd12.l.ops) (by kernel_rfl) ?_
 refine EL.quick 1 [] [] (by kernel_rfl) ?_
 refine EL.done (by kernel_rfl) ?_
 refine EQ.code ?_
 refine EW.seq (x := Cd12.r.l) (y := Cd12.r.r) (by kernel_rfl) ?_
 refine EW.region (id := 1) (ops := Cd12.r.l.ops) (by kernel_rfl) ?_
 refine EL.quick 1 [1] [(1, .agg #[.slice none ([] : List S60).length 0])] (by kernel_rfl) ?_
 refine EL.of (EO.box hS 93 (.agg #[.slice none ([] : List S60).length 0]) [.slice none ([] : List S60).length 0] 2 (by kernel_rfl) (by kernel_rfl) (by kernel_rfl) (by first | rfl | kernel_rfl) ?_)
 intro a0 w hS
 refine EL.quick 1 [0] [(0, .pointer (some ⟨a0, 0, none⟩))] (by kernel_rfl) ?_
 refine EL.done (by kernel_rfl) ?_
 refine EQ.code ?_
 refine EW.ret (by kernel_rfl) ?_
 have hS := St.nilO hS 60 kS60
 obtain rfl := Option.some.inj H
 exact EQ.leave (.pointer (some ⟨a0, 0, none⟩)) (by kernel_rfl) ⟨_, rfl, a0, none, 0, rfl, (hS.re [0, 1] [] rfl (sub_self))⟩

/-! ### confidant/ident.Of: function 41 -/
def ident_Of.f (K : Nat) (a0 : Int) (a1 : Int) : Option (Int × Bool) := lt (fun (a3 : Bool) => (if a3 = true then (some (0, false)) else (lt (IntKind.i32.wrap (IntKind.i64.wrap ((IntKind.i64.wrap (a0 * 65536)) + a1))) fun a7 => (some (a7, true))))) fun a2 => (if a0 < 0 then (a2 true) else (if a0 ≥ 16 then (a2 true) else (if a1 < 0 then (a2 true) else (a2 (decide (a1 ≥ 65536))))))
set_option maxRecDepth 100000 in
theorem ident_Of.calls {K : Nat} {a0 : Int} {a1 : Int} {a9 : Int} {b0 : Bool} {B w : World} {os : List Ass} {rs : List Ro} (H : ident_Of.f K a0 a1 = some (a9, b0)) (hS : St B w (os) (rs)) :
  Calls Try.prog 41 [.int .i64 a0, .int .i64 a1].toArray w (fun en w' => ∃ v, en = .returned v ∧ v = .tuple #[.int .i32 a9, .bool (b0)] ∧ St B w' (os) (rs)) := by
 unfold ident_Of.f at H
 refine calls_of_EW (args := [.int .i64 a0, .int .i64 a1]) (c := Cd41) 25 Try.func41 (by kernel_rfl) (by kernel_rfl) (by kernel_rfl) ?_
 refine EW.seq (x := Cd41.l) (y := Cd41.r) (by kernel_rfl) ?_
 refine EW.region (id := 0) (ops := Cd41.l.ops) (by kernel_rfl) ?_
 refine EL.quick 2 [0, 1] [(0, .int .i64 a0), (1, .int .i64 a1)] (by kernel_rfl) ?_
 refine EL.done (by kernel_rfl) ?_
 refine EQ.code ?_
 refine EW.seq (x := Cd41.r.l) (y := Cd41.r.r) (by kernel_rfl) ?_
 obtain ⟨a2, b1, H⟩ := lt_out H
 refine EW.cut (x := Cd41.r.l.l) (y := Cd41.r.l.r) (fun a w => ∃ a3 : Bool, Sat 25 [(0, .int .i64 a0), (1, .int .i64 a1), (19, .bool (a3))] a ∧ St B w (os) (rs) ∧ a2 a3 = some (a9, b0)) (by kernel_rfl) ?_ (fun a w hI => ?_)
 ·refine EW.region (id := 1) (ops := Cd41.r.l.l.ops) (by kernel_rfl) ?_
  refine EL.quick 3 [0, 1, 8] [(0, .int .i64 a0), (1, .int .i64 a1), (8, .bool (decide (a0 < 0)))] (by kernel_rfl) ?_
  by_cases a4 : a0 < 0
  ·rw [if_pos a4] at H
   refine EL.keep [0, 1, 8] [(0, .int .i64 a0), (1, .int .i64 a1), (8, .bool (decide (a0 < 0)))] (by kernel_rfl) ?_
   refine EL.as' [(0, .int .i64 a0), (1, .int .i64 a1), (8, .bool (true))] (by simp only [dec_t a4, Bool.not_true, Bool.not_false]) ?_
   refine EL.quick 11 [0, 1, 19] [(0, .int .i64 a0), (1, .int .i64 a1), (19, .bool (true))] (by kernel_rfl) ?_
   refine EL.done (by kernel_rfl) ?_
   refine EQ.to ?_
   refine EQ.keep [0, 1, 19] [(0, .int .i64 a0), (1, .int .i64 a1), (19, .bool (true))] (by kernel_rfl) ?_
   exact fun a ha => ⟨true, ha, (hS.re [] [] rfl (sub_self)), H⟩
  ·rw [if_neg a4] at H
   refine EL.keep [0, 1, 8] [(0, .int .i64 a0), (1, .int .i64 a1), (8, .bool (decide (a0 < 0)))] (by kernel_rfl) ?_
   refine EL.as' [(0, .int .i64 a0), (1, .int .i64 a1), (8, .bool (false))] (by simp only [dec_f a4, Bool.not_true, Bool.not_false]) ?_
   refine EL.quick 4 [0, 1, 12] [(0, .int .i64 a0), (1, .int .i64 a1), (12, .bool (decide (a0 ≥ 16)))] (by kernel_rfl) ?_
   by_cases a5 : a0 ≥ 16
   ·rw [if_pos a5] at H
    refine EL.keep [0, 1, 12] [(0, .int .i64 a0), (1, .int .i64 a1), (12, .bool (decide (a0 ≥ 16)))] (by kernel_rfl) ?_
    refine EL.as' [(0, .int .i64 a0), (1, .int .i64 a1), (12, .bool (true))] (by simp only [dec_t a5, Bool.not_true, Bool.not_false]) ?_
    refine EL.quick 7 [0, 1, 19] [(0, .int .i64 a0), (1, .int .i64 a1), (19, .bool (true))] (by kernel_rfl) ?_
    refine EL.done (by kernel_rfl) ?_
    refine EQ.to ?_
    refine EQ.keep [0, 1, 19] [(0, .int .i64 a0), (1, .int .i64 a1), (19, .bool (true))] (by kernel_rfl) ?_
    exact fun a ha => ⟨true, ha, (hS.re [] [] rfl (sub_self)), H⟩
   ·rw [if_neg a5] at H
    refine EL.keep [0, 1, 12] [(0, .int .i64 a0), (1, .int .i64 a1), (12, .bool (decide (a0 ≥ 16)))] (by kernel_rfl) ?_
    refine EL.as' [(0, .int .i64 a0), (1, .int .i64 a1), (12, .bool (false))] (by simp only [dec_f a5, Bool.not_true, Bool.not_false]) ?_
    refine EL.quick 4 [0, 1, 16] [(0, .int .i64 a0), (1, .int .i64 a1), (16, .bool (decide (a1 < 0)))] (by kernel_rfl) ?_
    by_cases a6 : a1 < 0
    ·rw [if_pos a6] at H
     refine EL.keep [0, 1, 16] [(0, .int .i64 a0), (1, .int .i64 a1), (16, .bool (decide (a1 < 0)))] (by kernel_rfl) ?_
     refine EL.as' [(0, .int .i64 a0), (1, .int .i64 a1), (16, .bool (true))] (by simp only [dec_t a6, Bool.not_true, Bool.not_false]) ?_
     refine EL.quick 3 [0, 1, 19] [(0, .int .i64 a0), (1, .int .i64 a1), (19, .bool (true))] (by kernel_rfl) ?_
     refine EL.done (by kernel_rfl) ?_
     refine EQ.to ?_
     refine EQ.keep [0, 1, 19] [(0, .int .i64 a0), (1, .int .i64 a1), (19, .bool (true))] (by kernel_rfl) ?_
     exact fun a ha => ⟨true, ha, (hS.re [] [] rfl (sub_self)), H⟩
    ·rw [if_neg a6] at H
     refine EL.keep [0, 1, 16] [(0, .int .i64 a0), (1, .int .i64 a1), (16, .bool (decide (a1 < 0)))] (by kernel_rfl) ?_
     refine EL.as' [(0, .int .i64 a0), (1, .int .i64 a1), (16, .bool (false))] (by simp only [dec_f a6, Bool.not_true, Bool.not_false]) ?_
     refine EL.quick 3 [0, 1, 19] [(0, .int .i64 a0), (1, .int .i64 a1), (19, .bool (decide (a1 ≥ 65536)))] (by kernel_rfl) ?_
     refine EL.done (by kernel_rfl) ?_
     refine EQ.to ?_
     refine EQ.keep [0, 1, 19] [(0, .int .i64 a0), (1, .int .i64 a1), (19, .bool (decide (a1 ≥ 65536)))] (by kernel_rfl) ?_
     exact fun a ha => ⟨decide (a1 ≥ 65536), ha, (hS.re [] [] rfl (sub_self)), H⟩
 ·obtain ⟨a3, ha, hS, H⟩ := hI
  rw [b1] at H
  (try dsimp only at H)
  refine EW.at ?_ a ha
  clear ha a
  refine EW.condP' (o := (.tmp 19)) (x := Cd41.r.l.r.l) (y := Cd41.r.l.r.r) (a3) (by kernel_rfl) (by kernel_rfl) (fun a8 => ?_) (fun a8 => ?_)
  ·rw [if_pos a8] at H
   refine EW.seq (x := Cd41.r.l.r.l.l) (y := Cd41.r.l.r.l.r) (by kernel_rfl) ?_
   refine EW.region (id := 2) (ops := Cd41.r.l.r.l.l.ops) (by kernel_rfl) ?_
   refine EL.quick 2 [4, 5] [(4, .int .i32 0), (5, .bool (false))] (by kernel_rfl) ?_
   refine EL.done (by kernel_rfl) ?_
   refine EQ.code ?_
   refine EW.ret (by kernel_rfl) ?_
   refine EQ.ret ?_
   simp only [Option.some.injEq, Prod.mk.injEq] at H
   obtain ⟨rfl, rfl⟩ := H
   exact EQ.leave (.tuple #[.int .i32 0, .bool (false)]) (by kernel_rfl) ⟨_, rfl, rfl, (hS.re [] [] rfl (sub_self))⟩
  ·rw [if_neg a8] at H
   refine EW.skip (by kernel_rfl) ?_
   refine EQ.code ?_
   refine EW.seq (x := Cd41.r.r.l) (y := Cd41.r.r.r) (by kernel_rfl) ?_
   refine EW.region (id := 3) (ops := Cd41.r.r.l.ops) (by kernel_rfl) ?_
   refine EL.quick 7 [4, 5] [(4, .int .i32 (IntKind.i32.wrap (IntKind.i64.wrap ((IntKind.i64.wrap (a0 * 65536)) + a1)))), (5, .bool (true))] (by kernel_rfl) ?_
   obtain ⟨a7, b2, H⟩ := lt_out H
   refine EL.keep [4, 5] [(4, .int .i32 (IntKind.i32.wrap (IntKind.i64.wrap ((IntKind.i64.wrap (a0 * 65536)) + a1)))), (5, .bool (true))] (by kernel_rfl) ?_
   refine EL.as' [(4, .int .i32 a7), (5, .bool (true))] (by subst b2; rfl) ?_
   refine EL.done (by kernel_rfl) ?_
   refine EQ.code ?_
   refine EW.ret (by kernel_rfl) ?_
   simp only [Option.some.injEq, Prod.mk.injEq] at H
   obtain ⟨rfl, rfl⟩ := H
   exact EQ.leave (.tuple #[.int .i32 a7, .bool (true)]) (by kernel_rfl) ⟨_, rfl, rfl, (hS.re [] [] rfl (sub_self))⟩

/-! ### (*confidant/future.Futures).Make: function 13 -/
def future_Futures_Make.f (K : Nat) (a4 : List (List S96)) (a3 : List Int) (a0 : Int) (a9 : Int) : Option (List (List S96) × Int × Bool) := lt (fun (d6 : Bool) => (if d6 = true then (some (a4, 0, false)) else (if 0 ≤ a0 then (if a0 < (a4.length : Int) then (b2 (ident_Of.f K a0 ((a4.getD a0.toNat []).length : Int)) fun (b1 : Int) (b3 : Bool) => (lt ([(⟨a9, 0, 0, 0⟩ : S96)] : List S96) fun a8 => (if ((a4.getD a0.toNat []).length + a8.length) * 32 ≤ 140737488355328 then (lt ((a4.getD a0.toNat []) ++ a8) fun b8 => (lt (a4.set a0.toNat b8) fun b0 => (some (b0, b1, b3)))) else none))) else none) else none))) fun d8 => (if a0 < 0 then (d8 true) else (if a0 ≥ (a4.length : Int) then (d8 true) else (if 0 ≤ a0 then (if a0 < (a4.length : Int) then (if a0 < (a3.length : Int) then (d8 (decide (((a4.getD a0.toNat []).length : Int) ≥ (a3.getD a0.toNat 0)))) else none) else none) else none)))
set_option maxRecDepth 100000 in
theorem future_Futures_Make.calls {K : Nat} {a4 : List (List S96)} {a3 : List Int} {a0 : Int} {a9 : Int} {a7 : Nat} {c3 : Option Addr} {a2 : Nat} {a6 : Option Addr} {a5 : Nat} {e0 : List (List S96)} {e4 : Int} {e5 : Bool} {B w : World} {os : List Ass} {rs : List Ro} (H : future_Futures_Make.f K a4 a3 a0 a9 = some (e0, e4, e5)) (hS : St B w (Ass.box 91 a7 [.slice c3 a4.length a2, .slice a6 a3.length a5] :: Ass.deep 94 96 kS96 c3 a2 a4 :: Ass.own 3 (Kd.int .i64) a6 a5 a3 :: os) (rs)) :
  Calls Try.prog 13 [.pointer (some ⟨a7, 0, none⟩), .int .i64 a0, .int .i64 a9].toArray w (fun en w' => ∃ v, en = .returned v ∧ ∃ e6 : Option Addr, ∃ g4 : Nat, v = .tuple #[.int .i32 e4, .bool (e5)] ∧ St B w' (Ass.box 91 a7 [.slice e6 e0.length g4, .slice a6 a3.length a5] :: Ass.deep 94 96 kS96 e6 g4 e0 :: Ass.own 3 (Kd.int .i64) a6 a5 a3 :: os) (rs)) := by
 unfold future_Futures_Make.f at H
 refine calls_of_EW (args := [.pointer (some ⟨a7, 0, none⟩), .int .i64 a0, .int .i64 a9]) (c := Cd13) 71 Try.func13 (by kernel_rfl) (by kernel_rfl) (by kernel_rfl) ?_
 refine EW.seq (x := Cd13.l) (y := Cd13.r) (by kernel_rfl) ?_
 refine EW.region (id := 0) (ops := Cd13.l.ops) (by kernel_rfl) ?_
 refine EL.quick 2 [0, 1, 2] [(0, .pointer (some ⟨a7, 0, none⟩)), (1, .int .i64 a0), (2, .int .i64 a9)] (by kernel_rfl) ?_
 refine EL.done (by kernel_rfl) ?_
 refine EQ.code ?_
 refine EW.seq (x := Cd13.r.l) (y := Cd13.r.r) (by kernel_rfl) ?_
 obtain ⟨d8, j3, H⟩ := lt_out H
 refine EW.cut (x := Cd13.r.l.l) (y := Cd13.r.l.r) (fun a w => ∃ d6 : Bool, Sat 71 [(0, .pointer (some ⟨a7, 0, none⟩)), (1, .int .i64 a0), (2, .int .i64 a9), (38, .bool (d6))] a ∧ St B w (Ass.box 91 a7 [.slice c3 a4.length a2, .slice a6 a3.length a5] :: Ass.deep 94 96 kS96 c3 a2 a4 :: Ass.own 3 (Kd.int .i64) a6 a5 a3 :: os) (rs) ∧ d8 d6 = some (e0, e4, e5)) (by kernel_rfl) ?_ (fun a w hI => ?_)
 ·by_cases d7 : a0 < 0
  ·rw [if_pos d7] at H
   have hS := hS.drew
   refine EW.draw (B := B) (id := 1) (ops := Cd13.r.l.l.ops) [Ass.box 91 a7 [.slice c3 a4.length a2, .slice a6 a3.length a5], Ass.deep 94 96 kS96 c3 a2 a4, Ass.own 3 (Kd.int .i64) a6 a5 a3] [] (by kernel_rfl) (by kernel_rfl) ?_
   have hN : Region.noSelect Cd13.r.l.l.ops = true := (by kernel_rfl)
   have hF : freeAll Cd13.r.l.l.ops = true := (by kernel_rfl)
   have hC : Core B [Ass.box 91 a7 [.slice c3 a4.length a2, .slice a6 a3.length a5], Ass.deep 94 96 kS96 c3 a2 a4, Ass.own 3 (Kd.int .i64) a6 a5 a3] [] _ := ⟨_, _, hS⟩
   refine ED.quick hN hF hC [0, 1, 2] [0, 1, 2, 12] 26 [(0, .pointer (some ⟨a7, 0, none⟩)), (1, .int .i64 a0), (2, .int .i64 a9), (12, .bool (decide (a0 < 0)))] #[true, true, true, false, false, false, false, false, false, false, false, false, false, false, false, false, false, false, false, false, false, false, false, false, false, false, false, false, false] (by kernel_rfl) (by kernel_rfl) ?_
   refine ED.keep [0, 1, 2, 12] [(0, .pointer (some ⟨a7, 0, none⟩)), (1, .int .i64 a0), (2, .int .i64 a9), (12, .bool (decide (a0 < 0)))] (by kernel_rfl) ?_
   refine ED.as' [(0, .pointer (some ⟨a7, 0, none⟩)), (1, .int .i64 a0), (2, .int .i64 a9), (12, .bool (true))] (by simp only [dec_t d7, Bool.not_true, Bool.not_false]) ?_
   refine ED.quick hN hF hC [3, 4, 5, 6, 7, 8, 9, 10, 11, 12, 13, 14, 15, 16, 17, 18, 19, 20, 21, 22, 23, 24, 25, 26, 27, 28] [0, 1, 2, 38] 0 [(0, .pointer (some ⟨a7, 0, none⟩)), (1, .int .i64 a0), (2, .int .i64 a9), (38, .bool (true))] #[true, true, true, true, true, true, true, true, true, true, true, true, true, true, true, true, true, true, true, true, true, true, true, true, true, true, true, true, true] (by kernel_rfl) (by kernel_rfl) ?_
   refine ED.done (by kernel_rfl) ?_
   refine EQ.to ?_
   refine EQ.keep [0, 1, 2, 38] [(0, .pointer (some ⟨a7, 0, none⟩)), (1, .int .i64 a0), (2, .int .i64 a9), (38, .bool (true))] (by kernel_rfl) ?_
   exact fun a ha => ⟨true, ha, (hS.re [2, 2, 2] [] rfl (sub_self)), H⟩
  ·rw [if_neg d7] at H
   by_cases d9 : a0 ≥ (a4.length : Int)
   ·rw [if_pos d9] at H
    have hS := hS.drew
    refine EW.draw (B := B) (id := 1) (ops := Cd13.r.l.l.ops) [Ass.box 91 a7 [.slice c3 a4.length a2, .slice a6 a3.length a5], Ass.deep 94 96 kS96 c3 a2 a4, Ass.own 3 (Kd.int .i64) a6 a5 a3] [] (by kernel_rfl) (by kernel_rfl) ?_
    have hN : Region.noSelect Cd13.r.l.l.ops = true := (by kernel_rfl)
    have hF : freeAll Cd13.r.l.l.ops = true := (by kernel_rfl)
    have hC : Core B [Ass.box 91 a7 [.slice c3 a4.length a2, .slice a6 a3.length a5], Ass.deep 94 96 kS96 c3 a2 a4, Ass.own 3 (Kd.int .i64) a6 a5 a3] [] _ := ⟨_, _, hS⟩
    refine ED.quick hN hF hC [0, 1, 2] [0, 1, 2, 12] 26 [(0, .pointer (some ⟨a7, 0, none⟩)), (1, .int .i64 a0), (2, .int .i64 a9), (12, .bool (decide (a0 < 0)))] #[true, true, true, false, false, false, false, false, false, false, false, false, false, false, false, false, false, false, false, false, false, false, false, false, false, false, false, false, false] (by kernel_rfl) (by kernel_rfl) ?_
    refine ED.keep [0, 1, 2, 12] [(0, .pointer (some ⟨a7, 0, none⟩)), (1, .int .i64 a0), (2, .int .i64 a9), (12, .bool (decide (a0 < 0)))] (by kernel_rfl) ?_
    refine ED.as' [(0, .pointer (some ⟨a7, 0, none⟩)), (1, .int .i64 a0), (2, .int .i64 a9), (12, .bool (false))] (by simp only [dec_f d7, Bool.not_true, Bool.not_false]) ?_
    refine ED.quick hN hF hC [3, 4, 5, 6] [0, 1, 2, 12, 13, 16] 22 [(0, .pointer (some ⟨a7, 0, none⟩)), (1, .int .i64 a0), (2, .int .i64 a9), (12, .bool (false)), (13, .int .i64 a0), (16, .pointer (some ⟨a7, 0, none⟩))] #[true, true, true, true, true, true, true, false, false, false, false, false, false, false, false, false, false, false, false, false, false, false, false, false, false, false, false, false, false] (by kernel_rfl) (by kernel_rfl) ?_
    refine ED.Y hN hF hC 7 21 #[true, true, true, true, true, true, true, true, false, false, false, false, false, false, false, false, false, false, false, false, false, false, false, false, false, false, false, false, false] (by kernel_rfl) (by kernel_rfl) rfl (fun _ _ _ hS => YO.loadBox hS 0 rfl 89 0 1 (.slice c3 a4.length a2) 17 (by kernel_rfl) (by kernel_rfl) (by kernel_rfl) (by kernel_rfl)) ?_
    refine ED.quick hN hF hC [8, 9, 10, 11] [0, 1, 2, 21] 17 [(0, .pointer (some ⟨a7, 0, none⟩)), (1, .int .i64 a0), (2, .int .i64 a9), (21, .bool (decide (a0 ≥ (a4.length : Int))))] #[true, true, true, true, true, true, true, true, true, true, true, true, false, false, false, false, false, false, false, false, false, false, false, false, false, false, false, false, false] (by kernel_rfl) (by kernel_rfl) ?_
    refine ED.keep [0, 1, 2, 21] [(0, .pointer (some ⟨a7, 0, none⟩)), (1, .int .i64 a0), (2, .int .i64 a9), (21, .bool (decide (a0 ≥ (a4.length : Int))))] (by kernel_rfl) ?_
    refine ED.as' [(0, .pointer (some ⟨a7, 0, none⟩)), (1, .int .i64 a0), (2, .int .i64 a9), (21, .bool (true))] (by simp only [dec_t d9, Bool.not_true, Bool.not_false]) ?_
    refine ED.quick hN hF hC [12, 13, 14, 15, 16, 17, 18, 19, 20, 21, 22, 23, 24, 25, 26, 27, 28] [0, 1, 2, 38] 0 [(0, .pointer (some ⟨a7, 0, none⟩)), (1, .int .i64 a0), (2, .int .i64 a9), (38, .bool (true))] #[true, true, true, true, true, true, true, true, true, true, true, true, true, true, true, true, true, true, true, true, true, true, true, true, true, true, true, true, true] (by kernel_rfl) (by kernel_rfl) ?_
    refine ED.done (by kernel_rfl) ?_
    refine EQ.to ?_
    refine EQ.keep [0, 1, 2, 38] [(0, .pointer (some ⟨a7, 0, none⟩)), (1, .int .i64 a0), (2, .int .i64 a9), (38, .bool (true))] (by kernel_rfl) ?_
    exact fun a ha => ⟨true, ha, (hS.re [2, 2, 2] [] rfl (sub_self)), H⟩
   ·rw [if_neg d9] at H
    obtain ⟨d5, H⟩ := ite_in H
    obtain ⟨e1, H⟩ := ite_in H
    obtain ⟨c8, rfl⟩ := St.deep_some hS 1 rfl d5 e1
    obtain ⟨e2, H⟩ := ite_in H
    obtain ⟨c7, rfl⟩ := St.rd_some hS (Rd.own 2 3 rfl) d5 e2
    have hS := hS.drew
    refine EW.draw (B := B) (id := 1) (ops := Cd13.r.l.l.ops) [Ass.box 91 a7 [.slice (some c8) a4.length a2, .slice (some c7) a3.length a5], Ass.own 3 (Kd.int .i64) (some c7) a5 a3] [] (by kernel_rfl) (by kernel_rfl) ?_
    have hN : Region.noSelect Cd13.r.l.l.ops = true := (by kernel_rfl)
    have hF : freeAll Cd13.r.l.l.ops = true := (by kernel_rfl)
    have hC : Core B [Ass.box 91 a7 [.slice (some c8) a4.length a2, .slice (some c7) a3.length a5], Ass.own 3 (Kd.int .i64) (some c7) a5 a3] [] _ := ⟨_, _, hS.re [2, 1] [] rfl sub_self⟩
    refine ED.quick hN hF hC [0, 1, 2] [0, 1, 2, 12] 26 [(0, .pointer (some ⟨a7, 0, none⟩)), (1, .int .i64 a0), (2, .int .i64 a9), (12, .bool (decide (a0 < 0)))] #[true, true, true, false, false, false, false, false, false, false, false, false, false, false, false, false, false, false, false, false, false, false, false, false, false, false, false, false, false] (by kernel_rfl) (by kernel_rfl) ?_
    refine ED.keep [0, 1, 2, 12] [(0, .pointer (some ⟨a7, 0, none⟩)), (1, .int .i64 a0), (2, .int .i64 a9), (12, .bool (decide (a0 < 0)))] (by kernel_rfl) ?_
    refine ED.as' [(0, .pointer (some ⟨a7, 0, none⟩)), (1, .int .i64 a0), (2, .int .i64 a9), (12, .bool (false))] (by simp only [dec_f d7, Bool.not_true, Bool.not_false]) ?_
    refine ED.quick hN hF hC [3, 4, 5, 6] [0, 1, 2, 12, 13, 16] 22 [(0, .pointer (some ⟨a7, 0, none⟩)), (1, .int .i64 a0), (2, .int .i64 a9), (12, .bool (false)), (13, .int .i64 a0), (16, .pointer (some ⟨a7, 0, none⟩))] #[true, true, true, true, true, true, true, false, false, false, false, false, false, false, false, false, false, false, false, false, false, false, false, false, false, false, false, false, false] (by kernel_rfl) (by kernel_rfl) ?_
    refine ED.Y hN hF hC 7 21 #[true, true, true, true, true, true, true, true, false, false, false, false, false, false, false, false, false, false, false, false, false, false, false, false, false, false, false, false, false] (by kernel_rfl) (by kernel_rfl) rfl (fun _ _ _ hS => YO.loadBox hS 0 rfl 89 0 1 (.slice (some c8) a4.length a2) 17 (by kernel_rfl) (by kernel_rfl) (by kernel_rfl) (by kernel_rfl)) ?_
    refine ED.quick hN hF hC [8, 9, 10, 11] [0, 1, 2, 21] 17 [(0, .pointer (some ⟨a7, 0, none⟩)), (1, .int .i64 a0), (2, .int .i64 a9), (21, .bool (decide (a0 ≥ (a4.length : Int))))] #[true, true, true, true, true, true, true, true, true, true, true, true, false, false, false, false, false, false, false, false, false, false, false, false, false, false, false, false, false] (by kernel_rfl) (by kernel_rfl) ?_
    refine ED.keep [0, 1, 2, 21] [(0, .pointer (some ⟨a7, 0, none⟩)), (1, .int .i64 a0), (2, .int .i64 a9), (21, .bool (decide (a0 ≥ (a4.length : Int))))] (by kernel_rfl) ?_
    refine ED.as' [(0, .pointer (some ⟨a7, 0, none⟩)), (1, .int .i64 a0), (2, .int .i64 a9), (21, .bool (false))] (by simp only [dec_f d9, Bool.not_true, Bool.not_false]) ?_
    refine ED.quick hN hF hC [12, 13, 14, 16, 20, 21, 22, 24] [0, 1, 2, 21, 24, 26, 32, 34] 9 [(0, .pointer (some ⟨a7, 0, none⟩)), (1, .int .i64 a0), (2, .int .i64 a9), (21, .bool (false)), (24, .pointer (some ⟨a7, 0, none⟩)), (26, .int .i64 a0), (32, .pointer (some ⟨a7, 1, none⟩)), (34, .int .i64 a0)] #[true, true, true, true, true, true, true, true, true, true, true, true, true, true, true, false, true, false, false, false, true, true, true, false, true, false, false, false, false] (by kernel_rfl) (by kernel_rfl) ?_
    refine ED.Y hN hF hC 15 8 #[true, true, true, true, true, true, true, true, true, true, true, true, true, true, true, true, true, false, false, false, true, true, true, false, true, false, false, false, false] (by kernel_rfl) (by kernel_rfl) rfl (fun _ _ _ hS => YO.loadBox hS 0 rfl 89 0 1 (.slice (some c8) a4.length a2) 25 (by kernel_rfl) (by kernel_rfl) (by kernel_rfl) (by kernel_rfl)) ?_
    refine ED.Y hN hF hC 17 7 #[true, true, true, true, true, true, true, true, true, true, true, true, true, true, true, true, true, true, false, false, true, true, true, false, true, false, false, false, false] (by kernel_rfl) (by kernel_rfl) rfl (fun _ _ _ hS => YO.idx 89 1 c8 a4.length a2 .i64 a0 27 (by kernel_rfl) (by kernel_rfl) (by kernel_rfl) (by kernel_rfl) d5 e1) ?_
    refine ED.Y hN hF hC 23 6 #[true, true, true, true, true, true, true, true, true, true, true, true, true, true, true, true, true, true, false, false, true, true, true, true, true, false, false, false, false] (by kernel_rfl) (by kernel_rfl) rfl (fun _ _ _ hS => YO.loadBox hS 0 rfl 66 1 1 (.slice (some c7) a3.length a5) 33 (by kernel_rfl) (by kernel_rfl) (by kernel_rfl) (by kernel_rfl)) ?_
    refine ED.Y hN hF hC 25 5 #[true, true, true, true, true, true, true, true, true, true, true, true, true, true, true, true, true, true, false, false, true, true, true, true, true, true, false, false, false] (by kernel_rfl) (by kernel_rfl) rfl (fun _ _ _ hS => YO.idx 66 1 c7 a3.length a5 .i64 a0 35 (by kernel_rfl) (by kernel_rfl) (by kernel_rfl) (by kernel_rfl) d5 e2) ?_
    refine ED.Y hN hF hC 26 4 #[true, true, true, true, true, true, true, true, true, true, true, true, true, true, true, true, true, true, false, false, true, true, true, true, true, true, true, false, false] (by kernel_rfl) (by kernel_rfl) rfl (fun _ _ _ hS => YO.loadEl hS (Kd.int .i64) c7 a5 a3 (Rd.own 1 3 rfl) 0 (encI .i64) encI_of a0 d5 e2 3 1 0 1 rfl (.int .i64 (a3.getD a0.toNat 0)) 36 (by kernel_rfl) (by kernel_rfl) (by kernel_rfl) (by kernel_rfl)) ?_
    refine ED.one 18 3 #[true, true, true, true, true, true, true, true, true, true, true, true, true, true, true, true, true, true, true, false, true, true, true, true, true, true, true, false, false] (by kernel_rfl) (by kernel_rfl) (by kernel_rfl) (EO.openEl hS 1 c8 rfl a0 d5 e1 (fun e7 g5 => Ass.box 91 a7 [.slice (some c8) a4.length a2, .slice (some c7) a3.length a5] :: Ass.holed 94 96 kS96 (some c8) a2 a4 a0.toNat (e7, (a4.getD a0.toNat []).length, g5) :: Ass.own 3 (Kd.int .i64) (some c7) a5 a3 :: os) 94 28 (by kernel_rfl) (by kernel_rfl) (by kernel_rfl) (by kernel_rfl) (fun _ _ => rfl) ?_)
    intro e7 g5 hS
    have hC : Core B [Ass.box 91 a7 [.slice (some c8) a4.length a2, .slice (some c7) a3.length a5], Ass.own 3 (Kd.int .i64) (some c7) a5 a3] [] _ := ⟨_, _, hS.re [3, 2] [] rfl sub_self⟩
    refine ⟨hC, ?_⟩
    refine ED.quick hN hF hC [19, 27, 28] [0, 1, 2, 38] 0 [(0, .pointer (some ⟨a7, 0, none⟩)), (1, .int .i64 a0), (2, .int .i64 a9), (38, .bool (decide (((a4.getD a0.toNat []).length : Int) ≥ (a3.getD a0.toNat 0))))] #[true, true, true, true, true, true, true, true, true, true, true, true, true, true, true, true, true, true, true, true, true, true, true, true, true, true, true, true, true] (by kernel_rfl) (by kernel_rfl) ?_
    refine ED.done (by kernel_rfl) ?_
    refine EQ.to ?_
    have hS := St.as (os' := Ass.box 91 a7 [.slice (some c8) a4.length a2, .slice (some c7) a3.length a5] :: Ass.deep 94 96 kS96 (some c8) a2 a4 :: Ass.own 3 (Kd.int .i64) (some c7) a5 a3 :: os) (St.close hS 0 1 rfl rfl rfl a4 (set_getD _ _)) rfl
    refine EQ.keep [0, 1, 2, 38] [(0, .pointer (some ⟨a7, 0, none⟩)), (1, .int .i64 a0), (2, .int .i64 a9), (38, .bool (decide (((a4.getD a0.toNat []).length : Int) ≥ (a3.getD a0.toNat 0))))] (by kernel_rfl) ?_
    exact fun a ha => ⟨decide (((a4.getD a0.toNat []).length : Int) ≥ (a3.getD a0.toNat 0)), ha, (hS.re [2, 2, 2] [] rfl (sub_self)), H⟩
 ·obtain ⟨d6, ha, hS, H⟩ := hI
  rw [j3] at H
  (try dsimp only at H)
  refine EW.at ?_ a ha
  clear ha a
  refine EW.condP' (o := (.tmp 38)) (x := Cd13.r.l.r.l) (y := Cd13.r.l.r.r) (d6) (by kernel_rfl) (by kernel_rfl) (fun e3 => ?_) (fun e3 => ?_)
  ·rw [if_pos e3] at H
   refine EW.seq (x := Cd13.r.l.r.l.l) (y := Cd13.r.l.r.l.r) (by kernel_rfl) ?_
   refine EW.region (id := 2) (ops := Cd13.r.l.r.l.l.ops) (by kernel_rfl) ?_
   refine EL.quick 2 [6, 7] [(6, .int .i32 0), (7, .bool (false))] (by kernel_rfl) ?_
   refine EL.done (by kernel_rfl) ?_
   refine EQ.code ?_
   refine EW.ret (by kernel_rfl) ?_
   refine EQ.ret ?_
   simp only [Option.some.injEq, Prod.mk.injEq] at H
   obtain ⟨rfl, rfl, rfl⟩ := H
   exact EQ.leave (.tuple #[.int .i32 0, .bool (false)]) (by kernel_rfl) ⟨_, rfl, c3, a2, rfl, (hS.re [2, 2, 2] [] rfl (sub_self))⟩
  ·rw [if_neg e3] at H
   refine EW.skip (by kernel_rfl) ?_
   refine EQ.code ?_
   refine EW.seq (x := Cd13.r.r.l) (y := Cd13.r.r.r) (by kernel_rfl) ?_
   refine EW.region (id := 3) (ops := Cd13.r.r.l.ops) (by kernel_rfl) ?_
   refine EL.quick 4 [0, 1, 2, 40, 43] [(0, .pointer (some ⟨a7, 0, none⟩)), (1, .int .i64 a0), (2, .int .i64 a9), (40, .int .i64 a0), (43, .pointer (some ⟨a7, 0, none⟩))] (by kernel_rfl) ?_
   refine EL.of (EO.Y (YO.loadBox hS 0 rfl 89 0 1 (.slice c3 a4.length a2) 44 (by kernel_rfl) (by kernel_rfl) (by kernel_rfl) (by kernel_rfl)) ?_)
   refine EL.quick 1 [0, 1, 2, 40, 44, 45] [(0, .pointer (some ⟨a7, 0, none⟩)), (1, .int .i64 a0), (2, .int .i64 a9), (40, .int .i64 a0), (44, .slice c3 a4.length a2), (45, .int .i64 a0)] (by kernel_rfl) ?_
   obtain ⟨b4, H⟩ := ite_in H
   obtain ⟨c0, H⟩ := ite_in H
   obtain ⟨a1, rfl⟩ := St.deep_some hS 1 rfl b4 c0
   refine EL.of (EO.Y (YO.idx 89 1 a1 a4.length a2 .i64 a0 46 (by kernel_rfl) (by kernel_rfl) (by kernel_rfl) (by kernel_rfl) b4 c0) ?_)
   refine EL.of (EO.openEl hS 1 a1 rfl a0 b4 c0 (fun b6 b7 => Ass.box 91 a7 [.slice (some a1) a4.length a2, .slice a6 a3.length a5] :: Ass.holed 94 96 kS96 (some a1) a2 a4 a0.toNat (b6, (a4.getD a0.toNat []).length, b7) :: Ass.own 3 (Kd.int .i64) a6 a5 a3 :: os) 94 47 (by kernel_rfl) (by kernel_rfl) (by kernel_rfl) (by kernel_rfl) (fun _ _ => rfl) ?_)
   intro b6 b7 hS
   refine EL.quick 1 [0, 1, 2, 40, 48] [(0, .pointer (some ⟨a7, 0, none⟩)), (1, .int .i64 a0), (2, .int .i64 a9), (40, .int .i64 a0), (48, .int .i64 ((a4.getD a0.toNat []).length : Int))] (by kernel_rfl) ?_
   obtain ⟨b1, b3, j2, H⟩ := b2_out H
   refine EL.of (EO.callD 41 [.int .i64 a0, .int .i64 ((a4.getD a0.toNat []).length : Int)] _ 49 (by kernel_rfl) (by kernel_rfl) (by kernel_rfl) (ident_Of.calls j2 hS) ?_)
   rintro v w ⟨rfl, hS⟩
   refine EL.quick 5 [0, 1, 2, 8, 9] [(0, .pointer (some ⟨a7, 0, none⟩)), (1, .int .i64 a0), (2, .int .i64 a9), (8, .int .i32 b1), (9, .bool (b3))] (by kernel_rfl) ?_
   refine EL.done (by kernel_rfl) ?_
   refine EQ.code ?_
   refine EW.seq (x := Cd13.r.r.r.l) (y := Cd13.r.r.r.r) (by kernel_rfl) ?_
   obtain ⟨a8, c2, H⟩ := lt_out H
   obtain ⟨c4, H⟩ := ite_in H
   obtain ⟨b8, c5, H⟩ := lt_out H
   obtain ⟨b0, b5, H⟩ := lt_out H
   refine EW.meet (id := 4) (ops := Cd13.r.r.r.l.ops) (fun a w => ∃ e8 : Option Addr, ∃ g6 : Nat, Sat 71 [(8, .int .i32 b1), (9, .bool (b3))] a ∧ St B w (Ass.own 96 kS96 e8 g6 a8 :: Ass.box 91 a7 [.slice (some a1) b0.length a2, .slice a6 a3.length a5] :: Ass.deep 94 96 kS96 (some a1) a2 b0 :: Ass.own 3 (Kd.int .i64) a6 a5 a3 :: os) (rs)) (by kernel_rfl) ?_ (fun a w hI => ?_)
   ·have hS := hS.drew
    refine EW.draw (B := B) (id := 4) (ops := Cd13.r.r.r.l.ops) [Ass.own 3 (Kd.int .i64) a6 a5 a3] [] (by kernel_rfl) (by kernel_rfl) ?_
    have hN : Region.noSelect Cd13.r.r.r.l.ops = true := (by kernel_rfl)
    have hF : freeAll Cd13.r.r.r.l.ops = true := (by kernel_rfl)
    have hC : Core B [Ass.own 3 (Kd.int .i64) a6 a5 a3] [] _ := ⟨_, _, hS.re [3] [] rfl sub_self⟩
    refine ED.quick hN hF hC [0, 1, 2, 4, 5, 6, 7, 9, 12, 13] [8, 9, 54, 56, 59, 61, 65] 8 [(8, .int .i32 b1), (9, .bool (b3)), (54, .pointer (some ⟨a7, 0, none⟩)), (56, .int .i64 a0), (59, .pointer (some ⟨a7, 0, none⟩)), (61, .int .i64 a0), (65, .agg #[.int .i64 a9, .int .i64 0, .int .i32 0, .int .i64 0])] #[true, true, true, false, true, true, true, true, false, true, false, false, true, true, false, false, false, false] (by kernel_rfl) (by kernel_rfl) ?_
    refine ED.many 3 [8, 14] 7 (by kernel_rfl) (by kernel_rfl) (Each.cons ?_ (Each.cons ?_ (Each.cons ?_ Each.nil)))
    ·refine EO.Y (YO.loadBox hS 1 rfl 89 0 1 (.slice (some a1) a4.length a2) 55 (by kernel_rfl) (by kernel_rfl) (by kernel_rfl) (by kernel_rfl)) ?_
     have hC : Core B [Ass.own 3 (Kd.int .i64) a6 a5 a3] [] _ := ⟨_, _, hS.re [3] [] rfl sub_self⟩
     refine ⟨hC, ?_⟩
     refine ED.at' #[true, true, true, true, true, true, true, true, false, true, false, false, true, true, false, false, false, false] (by kernel_rfl) ?_
     refine ED.two 8 14 6 (by kernel_rfl) (by kernel_rfl) ?_ ?_
     ·refine EO.Y (YO.loadBox hS 1 rfl 89 0 1 (.slice (some a1) a4.length a2) 60 (by kernel_rfl) (by kernel_rfl) (by kernel_rfl) (by kernel_rfl)) ?_
      have hC : Core B [Ass.own 3 (Kd.int .i64) a6 a5 a3] [] _ := ⟨_, _, hS.re [3] [] rfl sub_self⟩
      refine ⟨hC, ?_⟩
      refine ED.at' #[true, true, true, true, true, true, true, true, true, true, false, false, true, true, false, false, false, false] (by kernel_rfl) ?_
      refine ED.Y hN hF hC 10 5 #[true, true, true, true, true, true, true, true, true, true, true, false, true, true, false, false, false, false] (by kernel_rfl) (by kernel_rfl) rfl (fun _ _ _ hS => YO.idx 89 1 a1 a4.length a2 .i64 a0 62 (by kernel_rfl) (by kernel_rfl) (by kernel_rfl) (by kernel_rfl) b4 c0) ?_
      refine ED.two 11 14 4 (by kernel_rfl) (by kernel_rfl) ?_ ?_
      ·refine EO.Y (YO.loadHole hS 2 a1 (j := a0) rfl b4 94 63 (by kernel_rfl) (by kernel_rfl) (by kernel_rfl) (by kernel_rfl)) ?_
       have hC : Core B [Ass.own 3 (Kd.int .i64) a6 a5 a3] [] _ := ⟨_, _, hS.re [3] [] rfl sub_self⟩
       refine ⟨hC, ?_⟩
       refine ED.at' #[true, true, true, true, true, true, true, true, true, true, true, true, true, true, false, false, false, false] (by kernel_rfl) ?_
       refine ED.one 14 3 #[true, true, true, true, true, true, true, true, true, true, true, true, true, true, true, false, false, false] (by kernel_rfl) (by kernel_rfl) (by kernel_rfl) (EO.lit hS kS96 96 94 1 #[(0, .agg #[.int .i64 a9, .int .i64 0, .int .i32 0, .int .i64 0])] [.int .i64 a9, .int .i64 0, .int .i32 0, .int .i64 0] a8 66 (by kernel_rfl) (by kernel_rfl) (by kernel_rfl) (fun _ => (by kernel_rfl)) (by rw [c2]; rfl) (by kernel_rfl) (fun w G hr => (by rw [c2]; exact ⟨[.int .i64 a9, .int .i64 0, .int .i32 0, .int .i64 0], [], rfl, ⟨[.int .i64 a9], [.int .i64 0, .int .i32 0, .int .i64 0], rfl, rfl, ⟨[.int .i64 0], [.int .i32 0, .int .i64 0], rfl, rfl, ⟨[.int .i32 0], [.int .i64 0], rfl, rfl, ⟨[.int .i64 0], [], rfl, rfl, rfl⟩⟩⟩⟩, rfl⟩)) ?_)
       intro c9 w hS
       have hC : Core B [Ass.own 3 (Kd.int .i64) a6 a5 a3] [] _ := ⟨_, _, hS.re [4] [] rfl sub_self⟩
       refine ⟨hC, ?_⟩
       refine ED.one 15 2 #[true, true, true, true, true, true, true, true, true, true, true, true, true, true, true, true, false, false] (by kernel_rfl) (by kernel_rfl) (by kernel_rfl) (EO.append hS 94 94 96 32 1 kS96 b6 b7 (a4.getD a0.toNat []) rfl (some ⟨c9, 0, none⟩) 1 a8 (Rd.own 0 96 rfl) b8 c5 (fun e9 g7 => Ass.own 96 kS96 (some ⟨c9, 0, none⟩) 1 a8 :: Ass.own 96 kS96 e9 g7 b8 :: Ass.box 91 a7 [.slice (some a1) a4.length a2, .slice a6 a3.length a5] :: Ass.holed 94 96 kS96 (some a1) a2 a4 a0.toNat (b6, (a4.getD a0.toNat []).length, b7) :: Ass.own 3 (Kd.int .i64) a6 a5 a3 :: os) 67 (by kernel_rfl) (by kernel_rfl) (by kernel_rfl) (by kernel_rfl) c4 (fun _ _ => rfl) ?_)
       intro e9 g7 w hS
       have hC : Core B [Ass.own 3 (Kd.int .i64) a6 a5 a3] [] _ := ⟨_, _, hS.re [4] [] rfl sub_self⟩
       refine ⟨hC, ?_⟩
       refine ED.Y hN hF hC 16 1 #[true, true, true, true, true, true, true, true, true, true, true, true, true, true, true, true, true, false] (by kernel_rfl) (by kernel_rfl) rfl (fun _ _ _ hS => YO.idx 89 1 a1 a4.length a2 .i64 a0 68 (by kernel_rfl) (by kernel_rfl) (by kernel_rfl) (by kernel_rfl) b4 c0) ?_
       refine ED.one 17 0 #[true, true, true, true, true, true, true, true, true, true, true, true, true, true, true, true, true, true] (by kernel_rfl) (by kernel_rfl) (by kernel_rfl) (EO.closeEl hS 1 2 a1 a0 rfl rfl b4 b0 b5 (Ass.own 96 kS96 (some ⟨c9, 0, none⟩) 1 a8 :: Ass.box 91 a7 [.slice (some a1) a4.length a2, .slice a6 a3.length a5] :: Ass.deep 94 96 kS96 (some a1) a2 b0 :: Ass.own 3 (Kd.int .i64) a6 a5 a3 :: os) 94 (by kernel_rfl) (by kernel_rfl) (by kernel_rfl) (by kernel_rfl) rfl ?_)
       intro w hS
       have hS : St B w (Ass.own 96 kS96 (some ⟨c9, 0, none⟩) 1 a8 :: Ass.box 91 a7 [.slice (some a1) b0.length a2, .slice a6 a3.length a5] :: Ass.deep 94 96 kS96 (some a1) a2 b0 :: Ass.own 3 (Kd.int .i64) a6 a5 a3 :: os) (rs) := by simpa only [b5, List.length_set] using hS
       have hC : Core B [Ass.own 3 (Kd.int .i64) a6 a5 a3] [] _ := ⟨_, _, hS.re [3] [] rfl sub_self⟩
       refine ⟨hC, ?_⟩
       refine ED.keep [8, 9, 54, 55, 56, 59, 60, 61, 62, 65, 66, 68] [(8, .int .i32 b1), (9, .bool (b3)), (54, .pointer (some ⟨a7, 0, none⟩)), (55, .slice (some a1) a4.length a2), (56, .int .i64 a0), (59, .pointer (some ⟨a7, 0, none⟩)), (60, .slice (some a1) a4.length a2), (61, .int .i64 a0), (62, .pointer (some ((a1.add (a0.toNat * 1)).add 0))), (65, .agg #[.int .i64 a9, .int .i64 0, .int .i32 0, .int .i64 0]), (66, .slice (some ⟨c9, 0, none⟩) a8.length 1), (68, .pointer (some ((a1.add (a0.toNat * 1)).add 0)))] (by kernel_rfl) ?_
       refine ED.as' [(8, .int .i32 b1), (9, .bool (b3)), (54, .pointer (some ⟨a7, 0, none⟩)), (55, .slice (some a1) b0.length a2), (56, .int .i64 a0), (59, .pointer (some ⟨a7, 0, none⟩)), (60, .slice (some a1) b0.length a2), (61, .int .i64 a0), (62, .pointer (some ((a1.add (a0.toNat * 1)).add 0))), (65, .agg #[.int .i64 a9, .int .i64 0, .int .i32 0, .int .i64 0]), (66, .slice (some ⟨c9, 0, none⟩) a8.length 1), (68, .pointer (some ((a1.add (a0.toNat * 1)).add 0)))] (by simp only [b5, List.length_set]) ?_
       refine ED.done (by kernel_rfl) ?_
       refine EQ.to ?_
       refine EQ.keep [8, 9] [(8, .int .i32 b1), (9, .bool (b3))] (by kernel_rfl) ?_
       exact fun a ha => ⟨(some ⟨c9, 0, none⟩), 1, ha, (hS.re [3, 3, 3, 3] [] rfl (sub_self))⟩
      ·refine EO.lit hS kS96 96 94 1 #[(0, .agg #[.int .i64 a9, .int .i64 0, .int .i32 0, .int .i64 0])] [.int .i64 a9, .int .i64 0, .int .i32 0, .int .i64 0] a8 66 (by kernel_rfl) (by kernel_rfl) (by kernel_rfl) (fun _ => (by kernel_rfl)) (by rw [c2]; rfl) (by kernel_rfl) (fun w G hr => (by rw [c2]; exact ⟨[.int .i64 a9, .int .i64 0, .int .i32 0, .int .i64 0], [], rfl, ⟨[.int .i64 a9], [.int .i64 0, .int .i32 0, .int .i64 0], rfl, rfl, ⟨[.int .i64 0], [.int .i32 0, .int .i64 0], rfl, rfl, ⟨[.int .i32 0], [.int .i64 0], rfl, rfl, ⟨[.int .i64 0], [], rfl, rfl, rfl⟩⟩⟩⟩, rfl⟩)) ?_
       intro d0 w hS
       have hC : Core B [Ass.own 3 (Kd.int .i64) a6 a5 a3] [] _ := ⟨_, _, hS.re [4] [] rfl sub_self⟩
       refine ⟨hC, ?_⟩
       refine ED.at' #[true, true, true, true, true, true, true, true, true, true, true, false, true, true, true, false, false, false] (by kernel_rfl) ?_
       refine ED.one 11 3 #[true, true, true, true, true, true, true, true, true, true, true, true, true, true, true, false, false, false] (by kernel_rfl) (by kernel_rfl) (by kernel_rfl) (EO.Y (YO.loadHole hS 3 a1 (j := a0) rfl b4 94 63 (by kernel_rfl) (by kernel_rfl) (by kernel_rfl) (by kernel_rfl)) ?_)
       have hC : Core B [Ass.own 3 (Kd.int .i64) a6 a5 a3] [] _ := ⟨_, _, hS.re [4] [] rfl sub_self⟩
       refine ⟨hC, ?_⟩
       refine ED.one 15 2 #[true, true, true, true, true, true, true, true, true, true, true, true, true, true, true, true, false, false] (by kernel_rfl) (by kernel_rfl) (by kernel_rfl) (EO.append hS 94 94 96 32 1 kS96 b6 b7 (a4.getD a0.toNat []) rfl (some ⟨d0, 0, none⟩) 1 a8 (Rd.own 0 96 rfl) b8 c5 (fun f0 g8 => Ass.own 96 kS96 (some ⟨d0, 0, none⟩) 1 a8 :: Ass.own 96 kS96 f0 g8 b8 :: Ass.box 91 a7 [.slice (some a1) a4.length a2, .slice a6 a3.length a5] :: Ass.holed 94 96 kS96 (some a1) a2 a4 a0.toNat (b6, (a4.getD a0.toNat []).length, b7) :: Ass.own 3 (Kd.int .i64) a6 a5 a3 :: os) 67 (by kernel_rfl) (by kernel_rfl) (by kernel_rfl) (by kernel_rfl) c4 (fun _ _ => rfl) ?_)
       intro f0 g8 w hS
       have hC : Core B [Ass.own 3 (Kd.int .i64) a6 a5 a3] [] _ := ⟨_, _, hS.re [4] [] rfl sub_self⟩
       refine ⟨hC, ?_⟩
       refine ED.Y hN hF hC 16 1 #[true, true, true, true, true, true, true, true, true, true, true, true, true, true, true, true, true, false] (by kernel_rfl) (by kernel_rfl) rfl (fun _ _ _ hS => YO.idx 89 1 a1 a4.length a2 .i64 a0 68 (by kernel_rfl) (by kernel_rfl) (by kernel_rfl) (by kernel_rfl) b4 c0) ?_
       refine ED.one 17 0 #[true, true, true, true, true, true, true, true, true, true, true, true, true, true, true, true, true, true] (by kernel_rfl) (by kernel_rfl) (by kernel_rfl) (EO.closeEl hS 1 2 a1 a0 rfl rfl b4 b0 b5 (Ass.own 96 kS96 (some ⟨d0, 0, none⟩) 1 a8 :: Ass.box 91 a7 [.slice (some a1) a4.length a2, .slice a6 a3.length a5] :: Ass.deep 94 96 kS96 (some a1) a2 b0 :: Ass.own 3 (Kd.int .i64) a6 a5 a3 :: os) 94 (by kernel_rfl) (by kernel_rfl) (by kernel_rfl) (by kernel_rfl) rfl ?_)
       intro w hS
       have hS : St B w (Ass.own 96 kS96 (some ⟨d0, 0, none⟩) 1 a8 :: Ass.box 91 a7 [.slice (some a1) b0.length a2, .slice a6 a3.length a5] :: Ass.deep 94 96 kS96 (some a1) a2 b0 :: Ass.own 3 (Kd.int .i64) a6 a5 a3 :: os) (rs) := by simpa only [b5, List.length_set] using hS
       have hC : Core B [Ass.own 3 (Kd.int .i64) a6 a5 a3] [] _ := ⟨_, _, hS.re [3] [] rfl sub_self⟩
       refine ⟨hC, ?_⟩
       refine ED.keep [8, 9, 54, 55, 56, 59, 60, 61, 62, 65, 66, 68] [(8, .int .i32 b1), (9, .bool (b3)), (54, .pointer (some ⟨a7, 0, none⟩)), (55, .slice (some a1) a4.length a2), (56, .int .i64 a0), (59, .pointer (some ⟨a7, 0, none⟩)), (60, .slice (some a1) a4.length a2), (61, .int .i64 a0), (62, .pointer (some ((a1.add (a0.toNat * 1)).add 0))), (65, .agg #[.int .i64 a9, .int .i64 0, .int .i32 0, .int .i64 0]), (66, .slice (some ⟨d0, 0, none⟩) a8.length 1), (68, .pointer (some ((a1.add (a0.toNat * 1)).add 0)))] (by kernel_rfl) ?_
       refine ED.as' [(8, .int .i32 b1), (9, .bool (b3)), (54, .pointer (some ⟨a7, 0, none⟩)), (55, .slice (some a1) b0.length a2), (56, .int .i64 a0), (59, .pointer (some ⟨a7, 0, none⟩)), (60, .slice (some a1) b0.length a2), (61, .int .i64 a0), (62, .pointer (some ((a1.add (a0.toNat * 1)).add 0))), (65, .agg #[.int .i64 a9, .int .i64 0, .int .i32 0, .int .i64 0]), (66, .slice (some ⟨d0, 0, none⟩) a8.length 1), (68, .pointer (some ((a1.add (a0.toNat * 1)).add 0)))] (by simp only [b5, List.length_set]) ?_
       refine ED.done (by kernel_rfl) ?_
       refine EQ.to ?_
       refine EQ.keep [8, 9] [(8, .int .i32 b1), (9, .bool (b3))] (by kernel_rfl) ?_
       exact fun a ha => ⟨(some ⟨d0, 0, none⟩), 1, ha, (hS.re [3, 3, 3, 3] [] rfl (sub_self))⟩
     ·refine EO.lit hS kS96 96 94 1 #[(0, .agg #[.int .i64 a9, .int .i64 0, .int .i32 0, .int .i64 0])] [.int .i64 a9, .int .i64 0, .int .i32 0, .int .i64 0] a8 66 (by kernel_rfl) (by kernel_rfl) (by kernel_rfl) (fun _ => (by kernel_rfl)) (by rw [c2]; rfl) (by kernel_rfl) (fun w G hr => (by rw [c2]; exact ⟨[.int .i64 a9, .int .i64 0, .int .i32 0, .int .i64 0], [], rfl, ⟨[.int .i64 a9], [.int .i64 0, .int .i32 0, .int .i64 0], rfl, rfl, ⟨[.int .i64 0], [.int .i32 0, .int .i64 0], rfl, rfl, ⟨[.int .i32 0], [.int .i64 0], rfl, rfl, ⟨[.int .i64 0], [], rfl, rfl, rfl⟩⟩⟩⟩, rfl⟩)) ?_
      intro d1 w hS
      have hC : Core B [Ass.own 3 (Kd.int .i64) a6 a5 a3] [] _ := ⟨_, _, hS.re [4] [] rfl sub_self⟩
      refine ⟨hC, ?_⟩
      refine ED.at' #[true, true, true, true, true, true, true, true, false, true, false, false, true, true, true, false, false, false] (by kernel_rfl) ?_
      refine ED.one 8 5 #[true, true, true, true, true, true, true, true, true, true, false, false, true, true, true, false, false, false] (by kernel_rfl) (by kernel_rfl) (by kernel_rfl) (EO.Y (YO.loadBox hS 2 rfl 89 0 1 (.slice (some a1) a4.length a2) 60 (by kernel_rfl) (by kernel_rfl) (by kernel_rfl) (by kernel_rfl)) ?_)
      have hC : Core B [Ass.own 3 (Kd.int .i64) a6 a5 a3] [] _ := ⟨_, _, hS.re [4] [] rfl sub_self⟩
      refine ⟨hC, ?_⟩
      refine ED.Y hN hF hC 10 4 #[true, true, true, true, true, true, true, true, true, true, true, false, true, true, true, false, false, false] (by kernel_rfl) (by kernel_rfl) rfl (fun _ _ _ hS => YO.idx 89 1 a1 a4.length a2 .i64 a0 62 (by kernel_rfl) (by kernel_rfl) (by kernel_rfl) (by kernel_rfl) b4 c0) ?_
      refine ED.one 11 3 #[true, true, true, true, true, true, true, true, true, true, true, true, true, true, true, false, false, false] (by kernel_rfl) (by kernel_rfl) (by kernel_rfl) (EO.Y (YO.loadHole hS 3 a1 (j := a0) rfl b4 94 63 (by kernel_rfl) (by kernel_rfl) (by kernel_rfl) (by kernel_rfl)) ?_)
      have hC : Core B [Ass.own 3 (Kd.int .i64) a6 a5 a3] [] _ := ⟨_, _, hS.re [4] [] rfl sub_self⟩
      refine ⟨hC, ?_⟩
      refine ED.one 15 2 #[true, true, true, true, true, true, true, true, true, true, true, true, true, true, true, true, false, false] (by kernel_rfl) (by kernel_rfl) (by kernel_rfl) (EO.append hS 94 94 96 32 1 kS96 b6 b7 (a4.getD a0.toNat []) rfl (some ⟨d1, 0, none⟩) 1 a8 (Rd.own 0 96 rfl) b8 c5 (fun f1 g9 => Ass.own 96 kS96 (some ⟨d1, 0, none⟩) 1 a8 :: Ass.own 96 kS96 f1 g9 b8 :: Ass.box 91 a7 [.slice (some a1) a4.length a2, .slice a6 a3.length a5] :: Ass.holed 94 96 kS96 (some a1) a2 a4 a0.toNat (b6, (a4.getD a0.toNat []).length, b7) :: Ass.own 3 (Kd.int .i64) a6 a5 a3 :: os) 67 (by kernel_rfl) (by kernel_rfl) (by kernel_rfl) (by kernel_rfl) c4 (fun _ _ => rfl) ?_)
      intro f1 g9 w hS
      have hC : Core B [Ass.own 3 (Kd.int .i64) a6 a5 a3] [] _ := ⟨_, _, hS.re [4] [] rfl sub_self⟩
      refine ⟨hC, ?_⟩
      refine ED.Y hN hF hC 16 1 #[true, true, true, true, true, true, true, true, true, true, true, true, true, true, true, true, true, false] (by kernel_rfl) (by kernel_rfl) rfl (fun _ _ _ hS => YO.idx 89 1 a1 a4.length a2 .i64 a0 68 (by kernel_rfl) (by kernel_rfl) (by kernel_rfl) (by kernel_rfl) b4 c0) ?_
      refine ED.one 17 0 #[true, true, true, true, true, true, true, true, true, true, true, true, true, true, true, true, true, true] (by kernel_rfl) (by kernel_rfl) (by kernel_rfl) (EO.closeEl hS 1 2 a1 a0 rfl rfl b4 b0 b5 (Ass.own 96 kS96 (some ⟨d1, 0, none⟩) 1 a8 :: Ass.box 91 a7 [.slice (some a1) a4.length a2, .slice a6 a3.length a5] :: Ass.deep 94 96 kS96 (some a1) a2 b0 :: Ass.own 3 (Kd.int .i64) a6 a5 a3 :: os) 94 (by kernel_rfl) (by kernel_rfl) (by kernel_rfl) (by kernel_rfl) rfl ?_)
      intro w hS
      have hS : St B w (Ass.own 96 kS96 (some ⟨d1, 0, none⟩) 1 a8 :: Ass.box 91 a7 [.slice (some a1) b0.length a2, .slice a6 a3.length a5] :: Ass.deep 94 96 kS96 (some a1) a2 b0 :: Ass.own 3 (Kd.int .i64) a6 a5 a3 :: os) (rs) := by simpa only [b5, List.length_set] using hS
      have hC : Core B [Ass.own 3 (Kd.int .i64) a6 a5 a3] [] _ := ⟨_, _, hS.re [3] [] rfl sub_self⟩
      refine ⟨hC, ?_⟩
      refine ED.keep [8, 9, 54, 55, 56, 59, 60, 61, 62, 65, 66, 68] [(8, .int .i32 b1), (9, .bool (b3)), (54, .pointer (some ⟨a7, 0, none⟩)), (55, .slice (some a1) a4.length a2), (56, .int .i64 a0), (59, .pointer (some ⟨a7, 0, none⟩)), (60, .slice (some a1) a4.length a2), (61, .int .i64 a0), (62, .pointer (some ((a1.add (a0.toNat * 1)).add 0))), (65, .agg #[.int .i64 a9, .int .i64 0, .int .i32 0, .int .i64 0]), (66, .slice (some ⟨d1, 0, none⟩) a8.length 1), (68, .pointer (some ((a1.add (a0.toNat * 1)).add 0)))] (by kernel_rfl) ?_
      refine ED.as' [(8, .int .i32 b1), (9, .bool (b3)), (54, .pointer (some ⟨a7, 0, none⟩)), (55, .slice (some a1) b0.length a2), (56, .int .i64 a0), (59, .pointer (some ⟨a7, 0, none⟩)), (60, .slice (some a1) b0.length a2), (61, .int .i64 a0), (62, .pointer (some ((a1.add (a0.toNat * 1)).add 0))), (65, .agg #[.int .i64 a9, .int .i64 0, .int .i32 0, .int .i64 0]), (66, .slice (some ⟨d1, 0, none⟩) a8.length 1), (68, .pointer (some ((a1.add (a0.toNat * 1)).add 0)))] (by simp only [b5, List.length_set]) ?_
      refine ED.done (by kernel_rfl) ?_
      refine EQ.to ?_
      refine EQ.keep [8, 9] [(8, .int .i32 b1), (9, .bool (b3))] (by kernel_rfl) ?_
      exact fun a ha => ⟨(some ⟨d1, 0, none⟩), 1, ha, (hS.re [3, 3, 3, 3] [] rfl (sub_self))⟩
    ·refine EO.Y (YO.loadBox hS 1 rfl 89 0 1 (.slice (some a1) a4.length a2) 60 (by kernel_rfl) (by kernel_rfl) (by kernel_rfl) (by kernel_rfl)) ?_
     have hC : Core B [Ass.own 3 (Kd.int .i64) a6 a5 a3] [] _ := ⟨_, _, hS.re [3] [] rfl sub_self⟩
     refine ⟨hC, ?_⟩
     refine ED.at' #[true, true, true, false, true, true, true, true, true, true, false, false, true, true, false, false, false, false] (by kernel_rfl) ?_
     refine ED.Y hN hF hC 10 6 #[true, true, true, false, true, true, true, true, true, true, true, false, true, true, false, false, false, false] (by kernel_rfl) (by kernel_rfl) rfl (fun _ _ _ hS => YO.idx 89 1 a1 a4.length a2 .i64 a0 62 (by kernel_rfl) (by kernel_rfl) (by kernel_rfl) (by kernel_rfl) b4 c0) ?_
     refine ED.many 3 [11, 14] 5 (by kernel_rfl) (by kernel_rfl) (Each.cons ?_ (Each.cons ?_ (Each.cons ?_ Each.nil)))
     ·refine EO.Y (YO.loadBox hS 1 rfl 89 0 1 (.slice (some a1) a4.length a2) 55 (by kernel_rfl) (by kernel_rfl) (by kernel_rfl) (by kernel_rfl)) ?_
      have hC : Core B [Ass.own 3 (Kd.int .i64) a6 a5 a3] [] _ := ⟨_, _, hS.re [3] [] rfl sub_self⟩
      refine ⟨hC, ?_⟩
      refine ED.at' #[true, true, true, true, true, true, true, true, true, true, true, false, true, true, false, false, false, false] (by kernel_rfl) ?_
      refine ED.two 11 14 4 (by kernel_rfl) (by kernel_rfl) ?_ ?_
      ·refine EO.Y (YO.loadHole hS 2 a1 (j := a0) rfl b4 94 63 (by kernel_rfl) (by kernel_rfl) (by kernel_rfl) (by kernel_rfl)) ?_
       have hC : Core B [Ass.own 3 (Kd.int .i64) a6 a5 a3] [] _ := ⟨_, _, hS.re [3] [] rfl sub_self⟩
       refine ⟨hC, ?_⟩
       refine ED.at' #[true, true, true, true, true, true, true, true, true, true, true, true, true, true, false, false, false, false] (by kernel_rfl) ?_
       refine ED.one 14 3 #[true, true, true, true, true, true, true, true, true, true, true, true, true, true, true, false, false, false] (by kernel_rfl) (by kernel_rfl) (by kernel_rfl) (EO.lit hS kS96 96 94 1 #[(0, .agg #[.int .i64 a9, .int .i64 0, .int .i32 0, .int .i64 0])] [.int .i64 a9, .int .i64 0, .int .i32 0, .int .i64 0] a8 66 (by kernel_rfl) (by kernel_rfl) (by kernel_rfl) (fun _ => (by kernel_rfl)) (by rw [c2]; rfl) (by kernel_rfl) (fun w G hr => (by rw [c2]; exact ⟨[.int .i64 a9, .int .i64 0, .int .i32 0, .int .i64 0], [], rfl, ⟨[.int .i64 a9], [.int .i64 0, .int .i32 0, .int .i64 0], rfl, rfl, ⟨[.int .i64 0], [.int .i32 0, .int .i64 0], rfl, rfl, ⟨[.int .i32 0], [.int .i64 0], rfl, rfl, ⟨[.int .i64 0], [], rfl, rfl, rfl⟩⟩⟩⟩, rfl⟩)) ?_)
       intro d2 w hS
       have hC : Core B [Ass.own 3 (Kd.int .i64) a6 a5 a3] [] _ := ⟨_, _, hS.re [4] [] rfl sub_self⟩
       refine ⟨hC, ?_⟩
       refine ED.one 15 2 #[true, true, true, true, true, true, true, true, true, true, true, true, true, true, true, true, false, false] (by kernel_rfl) (by kernel_rfl) (by kernel_rfl) (EO.append hS 94 94 96 32 1 kS96 b6 b7 (a4.getD a0.toNat []) rfl (some ⟨d2, 0, none⟩) 1 a8 (Rd.own 0 96 rfl) b8 c5 (fun f2 i0 => Ass.own 96 kS96 (some ⟨d2, 0, none⟩) 1 a8 :: Ass.own 96 kS96 f2 i0 b8 :: Ass.box 91 a7 [.slice (some a1) a4.length a2, .slice a6 a3.length a5] :: Ass.holed 94 96 kS96 (some a1) a2 a4 a0.toNat (b6, (a4.getD a0.toNat []).length, b7) :: Ass.own 3 (Kd.int .i64) a6 a5 a3 :: os) 67 (by kernel_rfl) (by kernel_rfl) (by kernel_rfl) (by kernel_rfl) c4 (fun _ _ => rfl) ?_)
       intro f2 i0 w hS
       have hC : Core B [Ass.own 3 (Kd.int .i64) a6 a5 a3] [] _ := ⟨_, _, hS.re [4] [] rfl sub_self⟩
       refine ⟨hC, ?_⟩
       refine ED.Y hN hF hC 16 1 #[true, true, true, true, true, true, true, true, true, true, true, true, true, true, true, true, true, false] (by kernel_rfl) (by kernel_rfl) rfl (fun _ _ _ hS => YO.idx 89 1 a1 a4.length a2 .i64 a0 68 (by kernel_rfl) (by kernel_rfl) (by kernel_rfl) (by kernel_rfl) b4 c0) ?_
       refine ED.one 17 0 #[true, true, true, true, true, true, true, true, true, true, true, true, true, true, true, true, true, true] (by kernel_rfl) (by kernel_rfl) (by kernel_rfl) (EO.closeEl hS 1 2 a1 a0 rfl rfl b4 b0 b5 (Ass.own 96 kS96 (some ⟨d2, 0, none⟩) 1 a8 :: Ass.box 91 a7 [.slice (some a1) a4.length a2, .slice a6 a3.length a5] :: Ass.deep 94 96 kS96 (some a1) a2 b0 :: Ass.own 3 (Kd.int .i64) a6 a5 a3 :: os) 94 (by kernel_rfl) (by kernel_rfl) (by kernel_rfl) (by kernel_rfl) rfl ?_)
       intro w hS
       have hS : St B w (Ass.own 96 kS96 (some ⟨d2, 0, none⟩) 1 a8 :: Ass.box 91 a7 [.slice (some a1) b0.length a2, .slice a6 a3.length a5] :: Ass.deep 94 96 kS96 (some a1) a2 b0 :: Ass.own 3 (Kd.int .i64) a6 a5 a3 :: os) (rs) := by simpa only [b5, List.length_set] using hS
       have hC : Core B [Ass.own 3 (Kd.int .i64) a6 a5 a3] [] _ := ⟨_, _, hS.re [3] [] rfl sub_self⟩
       refine ⟨hC, ?_⟩
       refine ED.keep [8, 9, 54, 55, 56, 59, 60, 61, 62, 65, 66, 68] [(8, .int .i32 b1), (9, .bool (b3)), (54, .pointer (some ⟨a7, 0, none⟩)), (55, .slice (some a1) a4.length a2), (56, .int .i64 a0), (59, .pointer (some ⟨a7, 0, none⟩)), (60, .slice (some a1) a4.length a2), (61, .int .i64 a0), (62, .pointer (some ((a1.add (a0.toNat * 1)).add 0))), (65, .agg #[.int .i64 a9, .int .i64 0, .int .i32 0, .int .i64 0]), (66, .slice (some ⟨d2, 0, none⟩) a8.length 1), (68, .pointer (some ((a1.add (a0.toNat * 1)).add 0)))] (by kernel_rfl) ?_
       refine ED.as' [(8, .int .i32 b1), (9, .bool (b3)), (54, .pointer (some ⟨a7, 0, none⟩)), (55, .slice (some a1) b0.length a2), (56, .int .i64 a0), (59, .pointer (some ⟨a7, 0, none⟩)), (60, .slice (some a1) b0.length a2), (61, .int .i64 a0), (62, .pointer (some ((a1.add (a0.toNat * 1)).add 0))), (65, .agg #[.int .i64 a9, .int .i64 0, .int .i32 0, .int .i64 0]), (66, .slice (some ⟨d2, 0, none⟩) a8.length 1), (68, .pointer (some ((a1.add (a0.toNat * 1)).add 0)))] (by simp only [b5, List.length_set]) ?_
       refine ED.done (by kernel_rfl) ?_
       refine EQ.to ?_
       refine EQ.keep [8, 9] [(8, .int .i32 b1), (9, .bool (b3))] (by kernel_rfl) ?_
       exact fun a ha => ⟨(some ⟨d2, 0, none⟩), 1, ha, (hS.re [3, 3, 3, 3] [] rfl (sub_self))⟩
      ·refine EO.lit hS kS96 96 94 1 #[(0, .agg #[.int .i64 a9, .int .i64 0, .int .i32 0, .int .i64 0])] [.int .i64 a9, .int .i64 0, .int .i32 0, .int .i64 0] a8 66 (by kernel_rfl) (by kernel_rfl) (by kernel_rfl) (fun _ => (by kernel_rfl)) (by rw [c2]; rfl) (by kernel_rfl) (fun w G hr => (by rw [c2]; exact ⟨[.int .i64 a9, .int .i64 0, .int .i32 0, .int .i64 0], [], rfl, ⟨[.int .i64 a9], [.int .i64 0, .int .i32 0, .int .i64 0], rfl, rfl, ⟨[.int .i64 0], [.int .i32 0, .int .i64 0], rfl, rfl, ⟨[.int .i32 0], [.int .i64 0], rfl, rfl, ⟨[.int .i64 0], [], rfl, rfl, rfl⟩⟩⟩⟩, rfl⟩)) ?_
       intro d3 w hS
       have hC : Core B [Ass.own 3 (Kd.int .i64) a6 a5 a3] [] _ := ⟨_, _, hS.re [4] [] rfl sub_self⟩
       refine ⟨hC, ?_⟩
       refine ED.at' #[true, true, true, true, true, true, true, true, true, true, true, false, true, true, true, false, false, false] (by kernel_rfl) ?_
       refine ED.one 11 3 #[true, true, true, true, true, true, true, true, true, true, true, true, true, true, true, false, false, false] (by kernel_rfl) (by kernel_rfl) (by kernel_rfl) (EO.Y (YO.loadHole hS 3 a1 (j := a0) rfl b4 94 63 (by kernel_rfl) (by kernel_rfl) (by kernel_rfl) (by kernel_rfl)) ?_)
       have hC : Core B [Ass.own 3 (Kd.int .i64) a6 a5 a3] [] _ := ⟨_, _, hS.re [4] [] rfl sub_self⟩
       refine ⟨hC, ?_⟩
       refine ED.one 15 2 #[true, true, true, true, true, true, true, true, true, true, true, true, true, true, true, true, false, false] (by kernel_rfl) (by kernel_rfl) (by kernel_rfl) (EO.append hS 94 94 96 32 1 kS96 b6 b7 (a4.getD a0.toNat []) rfl (some ⟨d3, 0, none⟩) 1 a8 (Rd.own 0 96 rfl) b8 c5 (fun f3 i1 => Ass.own 96 kS96 (some ⟨d3, 0, none⟩) 1 a8 :: Ass.own 96 kS96 f3 i1 b8 :: Ass.box 91 a7 [.slice (some a1) a4.length a2, .slice a6 a3.length a5] :: Ass.holed 94 96 kS96 (some a1) a2 a4 a0.toNat (b6, (a4.getD a0.toNat []).length, b7) :: Ass.own 3 (Kd.int .i64) a6 a5 a3 :: os) 67 (by kernel_rfl) (by kernel_rfl) (by kernel_rfl) (by kernel_rfl) c4 (fun _ _ => rfl) ?_)
       intro f3 i1 w hS
       have hC : Core B [Ass.own 3 (Kd.int .i64) a6 a5 a3] [] _ := ⟨_, _, hS.re [4] [] rfl sub_self⟩
       refine ⟨hC, ?_⟩
       refine ED.Y hN hF hC 16 1 #[true, true, true, true, true, true, true, true, true, true, true, true, true, true, true, true, true, false] (by kernel_rfl) (by kernel_rfl) rfl (fun _ _ _ hS => YO.idx 89 1 a1 a4.length a2 .i64 a0 68 (by kernel_rfl) (by kernel_rfl) (by kernel_rfl) (by kernel_rfl) b4 c0) ?_
       refine ED.one 17 0 #[true, true, true, true, true, true, true, true, true, true, true, true, true, true, true, true, true, true] (by kernel_rfl) (by kernel_rfl) (by kernel_rfl) (EO.closeEl hS 1 2 a1 a0 rfl rfl b4 b0 b5 (Ass.own 96 kS96 (some ⟨d3, 0, none⟩) 1 a8 :: Ass.box 91 a7 [.slice (some a1) a4.length a2, .slice a6 a3.length a5] :: Ass.deep 94 96 kS96 (some a1) a2 b0 :: Ass.own 3 (Kd.int .i64) a6 a5 a3 :: os) 94 (by kernel_rfl) (by kernel_rfl) (by kernel_rfl) (by kernel_rfl) rfl ?_)
       intro w hS
       have hS : St B w (Ass.own 96 kS96 (some ⟨d3, 0, none⟩) 1 a8 :: Ass.box 91 a7 [.slice (some a1) b0.length a2, .slice a6 a3.length a5] :: Ass.deep 94 96 kS96 (some a1) a2 b0 :: Ass.own 3 (Kd.int .i64) a6 a5 a3 :: os) (rs) := by simpa only [b5, List.length_set] using hS
       have hC : Core B [Ass.own 3 (Kd.int .i64) a6 a5 a3] [] _ := ⟨_, _, hS.re [3] [] rfl sub_self⟩
       refine ⟨hC, ?_⟩
       refine ED.keep [8, 9, 54, 55, 56, 59, 60, 61, 62, 65, 66, 68] [(8, .int .i32 b1), (9, .bool (b3)), (54, .pointer (some ⟨a7, 0, none⟩)), (55, .slice (some a1) a4.length a2), (56, .int .i64 a0), (59, .pointer (some ⟨a7, 0, none⟩)), (60, .slice (some a1) a4.length a2), (61, .int .i64 a0), (62, .pointer (some ((a1.add (a0.toNat * 1)).add 0))), (65, .agg #[.int .i64 a9, .int .i64 0, .int .i32 0, .int .i64 0]), (66, .slice (some ⟨d3, 0, none⟩) a8.length 1), (68, .pointer (some ((a1.add (a0.toNat * 1)).add 0)))] (by kernel_rfl) ?_
       refine ED.as' [(8, .int .i32 b1), (9, .bool (b3)), (54, .pointer (some ⟨a7, 0, none⟩)), (55, .slice (some a1) b0.length a2), (56, .int .i64 a0), (59, .pointer (some ⟨a7, 0, none⟩)), (60, .slice (some a1) b0.length a2), (61, .int .i64 a0), (62, .pointer (some ((a1.add (a0.toNat * 1)).add 0))), (65, .agg #[.int .i64 a9, .int .i64 0, .int .i32 0, .int .i64 0]), (66, .slice (some ⟨d3, 0, none⟩) a8.length 1), (68, .pointer (some ((a1.add (a0.toNat * 1)).add 0)))] (by simp only [b5, List.length_set]) ?_
       refine ED.done (by kernel_rfl) ?_
       refine EQ.to ?_
       refine EQ.keep [8, 9] [(8, .int .i32 b1), (9, .bool (b3))] (by kernel_rfl) ?_
       exact fun a ha => ⟨(some ⟨d3, 0, none⟩), 1, ha, (hS.re [3, 3, 3, 3] [] rfl (sub_self))⟩
     ·refine EO.Y (YO.loadHole hS 2 a1 (j := a0) rfl b4 94 63 (by kernel_rfl) (by kernel_rfl) (by kernel_rfl) (by kernel_rfl)) ?_
      have hC : Core B [Ass.own 3 (Kd.int .i64) a6 a5 a3] [] _ := ⟨_, _, hS.re [3] [] rfl sub_self⟩
      refine ⟨hC, ?_⟩
      refine ED.at' #[true, true, true, false, true, true, true, true, true, true, true, true, true, true, false, false, false, false] (by kernel_rfl) ?_
      refine ED.two 3 14 4 (by kernel_rfl) (by kernel_rfl) ?_ ?_
      ·refine EO.Y (YO.loadBox hS 1 rfl 89 0 1 (.slice (some a1) a4.length a2) 55 (by kernel_rfl) (by kernel_rfl) (by kernel_rfl) (by kernel_rfl)) ?_
       have hC : Core B [Ass.own 3 (Kd.int .i64) a6 a5 a3] [] _ := ⟨_, _, hS.re [3] [] rfl sub_self⟩
       refine ⟨hC, ?_⟩
       refine ED.at' #[true, true, true, true, true, true, true, true, true, true, true, true, true, true, false, false, false, false] (by kernel_rfl) ?_
       refine ED.one 14 3 #[true, true, true, true, true, true, true, true, true, true, true, true, true, true, true, false, false, false] (by kernel_rfl) (by kernel_rfl) (by kernel_rfl) (EO.lit hS kS96 96 94 1 #[(0, .agg #[.int .i64 a9, .int .i64 0, .int .i32 0, .int .i64 0])] [.int .i64 a9, .int .i64 0, .int .i32 0, .int .i64 0] a8 66 (by kernel_rfl) (by kernel_rfl) (by kernel_rfl) (fun _ => (by kernel_rfl)) (by rw [c2]; rfl) (by kernel_rfl) (fun w G hr => (by rw [c2]; exact ⟨[.int .i64 a9, .int .i64 0, .int .i32 0, .int .i64 0], [], rfl, ⟨[.int .i64 a9], [.int .i64 0, .int .i32 0, .int .i64 0], rfl, rfl, ⟨[.int .i64 0], [.int .i32 0, .int .i64 0], rfl, rfl, ⟨[.int .i32 0], [.int .i64 0], rfl, rfl, ⟨[.int .i64 0], [], rfl, rfl, rfl⟩⟩⟩⟩, rfl⟩)) ?_)
       intro d4 w hS
       have hC : Core B [Ass.own 3 (Kd.int .i64) a6 a5 a3] [] _ := ⟨_, _, hS.re [4] [] rfl sub_self⟩
       refine ⟨hC, ?_⟩
       refine ED.one 15 2 #[true, true, true, true, true, true, true, true, true, true, true, true, true, true, true, true, false, false] (by kernel_rfl) (by kernel_rfl) (by kernel_rfl) (EO.append hS 94 94 96 32 1 kS96 b6 b7 (a4.getD a0.toNat []) rfl (some ⟨d4, 0, none⟩) 1 a8 (Rd.own 0 96 rfl) b8 c5 (fun f4 i2 => Ass.own 96 kS96 (some ⟨d4, 0, none⟩) 1 a8 :: Ass.own 96 kS96 f4 i2 b8 :: Ass.box 91 a7 [.slice (some a1) a4.length a2, .slice a6 a3.length a5] :: Ass.holed 94 96 kS96 (some a1) a2 a4 a0.toNat (b6, (a4.getD a0.toNat []).length, b7) :: Ass.own 3 (Kd.int .i64) a6 a5 a3 :: os) 67 (by kernel_rfl) (by kernel_rfl) (by kernel_rfl) (by kernel_rfl) c4 (fun _ _ => rfl) ?_)
       intro f4 i2 w hS
       have hC : Core B [Ass.own 3 (Kd.int .i64) a6 a5 a3] [] _ := ⟨_, _, hS.re [4] [] rfl sub_self⟩
       refine ⟨hC, ?_⟩
       refine ED.Y hN hF hC 16 1 #[true, true, true, true, true, true, true, true, true, true, true, true, true, true, true, true, true, false] (by kernel_rfl) (by kernel_rfl) rfl (fun _ _ _ hS => YO.idx 89 1 a1 a4.length a2 .i64 a0 68 (by kernel_rfl) (by kernel_rfl) (by kernel_rfl) (by kernel_rfl) b4 c0) ?_
       refine ED.one 17 0 #[true, true, true, true, true, true, true, true, true, true, true, true, true, true, true, true, true, true] (by kernel_rfl) (by kernel_rfl) (by kernel_rfl) (EO.closeEl hS 1 2 a1 a0 rfl rfl b4 b0 b5 (Ass.own 96 kS96 (some ⟨d4, 0, none⟩) 1 a8 :: Ass.box 91 a7 [.slice (some a1) a4.length a2, .slice a6 a3.length a5] :: Ass.deep 94 96 kS96 (some a1) a2 b0 :: Ass.own 3 (Kd.int .i64) a6 a5 a3 :: os) 94 (by kernel_rfl) (by kernel_rfl) (by kernel_rfl) (by kernel_rfl) rfl ?_)
       intro w hS
       have hS : St B w (Ass.own 96 kS96 (some ⟨d4, 0, none⟩) 1 a8 :: Ass.box 91 a7 [.slice (some a1) b0.length a2, .slice a6 a3.length a5] :: Ass.deep 94 96 kS96 (some a1) a2 b0 :: Ass.own 3 (Kd.int .i64) a6 a5 a3 :: os) (rs) := by simpa only [b5, List.length_set] using hS
       have hC : Core B [Ass.own 3 (Kd.int .i64) a6 a5 a3] [] _ := ⟨_, _, hS.re [3] [] rfl sub_self⟩
       refine ⟨hC, ?_⟩
       refine ED.keep [8, 9, 54, 55, 56, 59, 60, 61, 62, 65, 66, 68] [(8, .int .i32 b1), (9, .bool (b3)), (54, .pointer (some ⟨a7, 0, none⟩)), (55, .slice (some a1) a4.length a2), (56, .int .i64 a0), (59, .pointer (some ⟨a7, 0, none⟩)), (60, .slice (some a1) a4.length a2), (61, .int .i64 a0), (62, .pointer (some ((a1.add (a0.toNat * 1)).add 0))), (65, .agg #[.int .i64 a9, .int .i64 0, .int .i32 0, .int .i64 0]), (66, .slice (some ⟨d4, 0, none⟩) a8.length 1), (68, .pointer (some ((a1.add (a0.toNat * 1)).add 0)))] (by kernel_rfl) ?_
       refine ED.as' [(8, .int .i32 b1), (9, .bool (b3)), (54, .pointer (some ⟨a7, 0, none⟩)), (55, .slice (some a1) b0.length a2), (56, .int .i64 a0), (59, .pointer (some ⟨a7, 0, none⟩)), (60, .slice (some a1) b0.length a2), (61, .int .i64 a0), (62, .pointer (some ((a1.add (a0.toNat * 1)).add 0))), (65, .agg #[.int .i64 a9, .int .i64 0, .int .i32 0, .int .i64 0]), (66, .slice (some ⟨d4, 0, none⟩) a8.length 1), (68, .pointer (some ((a1.add (a0.toNat * 1)).add 0)))] (by simp only [b5, List.length_set]) ?_
       refine ED.done (by kernel_rfl) ?_
       refine EQ.to ?_
       refine EQ.keep [8, 9] [(8, .int .i32 b1), (9, .bool (b3))] (by kernel_rfl) ?_
       exact fun a ha => ⟨(some ⟨d4, 0, none⟩), 1, ha, (hS.re [3, 3, 3, 3] [] rfl (sub_self))⟩
      ·refine EO.lit hS kS96 96 94 1 #[(0, .agg #[.int .i64 a9, .int .i64 0, .int .i32 0, .int .i64 0])] [.int .i64 a9, .int .i64 0, .int .i32 0, .int .i64 0] a8 66 (by kernel_rfl) (by kernel_rfl) (by kernel_rfl) (fun _ => (by kernel_rfl)) (by rw [c2]; rfl) (by kernel_rfl) (fun w G hr => (by rw [c2]; exact ⟨[.int .i64 a9, .int .i64 0, .int .i32 0, .int .i64 0], [], rfl, ⟨[.int .i64 a9], [.int .i64 0, .int .i32 0, .int .i64 0], rfl, rfl, ⟨[.int .i64 0], [.int .i32 0, .int .i64 0], rfl, rfl, ⟨[.int .i32 0], [.int .i64 0], rfl, rfl, ⟨[.int .i64 0], [], rfl, rfl, rfl⟩⟩⟩⟩, rfl⟩)) ?_
       intro c6 w hS
       have hC : Core B [Ass.own 3 (Kd.int .i64) a6 a5 a3] [] _ := ⟨_, _, hS.re [4] [] rfl sub_self⟩
       refine ⟨hC, ?_⟩
       refine ED.at' #[true, true, true, false, true, true, true, true, true, true, true, true, true, true, true, false, false, false] (by kernel_rfl) ?_
       refine ED.two 3 15 3 (by kernel_rfl) (by kernel_rfl) ?_ ?_
       ·refine EO.Y (YO.loadBox hS 2 rfl 89 0 1 (.slice (some a1) a4.length a2) 55 (by kernel_rfl) (by kernel_rfl) (by kernel_rfl) (by kernel_rfl)) ?_
        have hC : Core B [Ass.own 3 (Kd.int .i64) a6 a5 a3] [] _ := ⟨_, _, hS.re [4] [] rfl sub_self⟩
        refine ⟨hC, ?_⟩
        refine ED.at' #[true, true, true, true, true, true, true, true, true, true, true, true, true, true, true, false, false, false] (by kernel_rfl) ?_
        refine ED.one 15 2 #[true, true, true, true, true, true, true, true, true, true, true, true, true, true, true, true, false, false] (by kernel_rfl) (by kernel_rfl) (by kernel_rfl) (EO.append hS 94 94 96 32 1 kS96 b6 b7 (a4.getD a0.toNat []) rfl (some ⟨c6, 0, none⟩) 1 a8 (Rd.own 0 96 rfl) b8 c5 (fun f5 i3 => Ass.own 96 kS96 (some ⟨c6, 0, none⟩) 1 a8 :: Ass.own 96 kS96 f5 i3 b8 :: Ass.box 91 a7 [.slice (some a1) a4.length a2, .slice a6 a3.length a5] :: Ass.holed 94 96 kS96 (some a1) a2 a4 a0.toNat (b6, (a4.getD a0.toNat []).length, b7) :: Ass.own 3 (Kd.int .i64) a6 a5 a3 :: os) 67 (by kernel_rfl) (by kernel_rfl) (by kernel_rfl) (by kernel_rfl) c4 (fun _ _ => rfl) ?_)
        intro f5 i3 w hS
        have hC : Core B [Ass.own 3 (Kd.int .i64) a6 a5 a3] [] _ := ⟨_, _, hS.re [4] [] rfl sub_self⟩
        refine ⟨hC, ?_⟩
        refine ED.Y hN hF hC 16 1 #[true, true, true, true, true, true, true, true, true, true, true, true, true, true, true, true, true, false] (by kernel_rfl) (by kernel_rfl) rfl (fun _ _ _ hS => YO.idx 89 1 a1 a4.length a2 .i64 a0 68 (by kernel_rfl) (by kernel_rfl) (by kernel_rfl) (by kernel_rfl) b4 c0) ?_
        refine ED.one 17 0 #[true, true, true, true, true, true, true, true, true, true, true, true, true, true, true, true, true, true] (by kernel_rfl) (by kernel_rfl) (by kernel_rfl) (EO.closeEl hS 1 2 a1 a0 rfl rfl b4 b0 b5 (Ass.own 96 kS96 (some ⟨c6, 0, none⟩) 1 a8 :: Ass.box 91 a7 [.slice (some a1) a4.length a2, .slice a6 a3.length a5] :: Ass.deep 94 96 kS96 (some a1) a2 b0 :: Ass.own 3 (Kd.int .i64) a6 a5 a3 :: os) 94 (by kernel_rfl) (by kernel_rfl) (by kernel_rfl) (by kernel_rfl) rfl ?_)
        intro w hS
        have hS : St B w (Ass.own 96 kS96 (some ⟨c6, 0, none⟩) 1 a8 :: Ass.box 91 a7 [.slice (some a1) b0.length a2, .slice a6 a3.length a5] :: Ass.deep 94 96 kS96 (some a1) a2 b0 :: Ass.own 3 (Kd.int .i64) a6 a5 a3 :: os) (rs) := by simpa only [b5, List.length_set] using hS
        have hC : Core B [Ass.own 3 (Kd.int .i64) a6 a5 a3] [] _ := ⟨_, _, hS.re [3] [] rfl sub_self⟩
        refine ⟨hC, ?_⟩
        refine ED.keep [8, 9, 54, 55, 56, 59, 60, 61, 62, 65, 66, 68] [(8, .int .i32 b1), (9, .bool (b3)), (54, .pointer (some ⟨a7, 0, none⟩)), (55, .slice (some a1) a4.length a2), (56, .int .i64 a0), (59, .pointer (some ⟨a7, 0, none⟩)), (60, .slice (some a1) a4.length a2), (61, .int .i64 a0), (62, .pointer (some ((a1.add (a0.toNat * 1)).add 0))), (65, .agg #[.int .i64 a9, .int .i64 0, .int .i32 0, .int .i64 0]), (66, .slice (some ⟨c6, 0, none⟩) a8.length 1), (68, .pointer (some ((a1.add (a0.toNat * 1)).add 0)))] (by kernel_rfl) ?_
        refine ED.as' [(8, .int .i32 b1), (9, .bool (b3)), (54, .pointer (some ⟨a7, 0, none⟩)), (55, .slice (some a1) b0.length a2), (56, .int .i64 a0), (59, .pointer (some ⟨a7, 0, none⟩)), (60, .slice (some a1) b0.length a2), (61, .int .i64 a0), (62, .pointer (some ((a1.add (a0.toNat * 1)).add 0))), (65, .agg #[.int .i64 a9, .int .i64 0, .int .i32 0, .int .i64 0]), (66, .slice (some ⟨c6, 0, none⟩) a8.length 1), (68, .pointer (some ((a1.add (a0.toNat * 1)).add 0)))] (by simp only [b5, List.length_set]) ?_
        refine ED.done (by kernel_rfl) ?_
        refine EQ.to ?_
        refine EQ.keep [8, 9] [(8, .int .i32 b1), (9, .bool (b3))] (by kernel_rfl) ?_
        exact fun a ha => ⟨(some ⟨c6, 0, none⟩), 1, ha, (hS.re [3, 3, 3, 3] [] rfl (sub_self))⟩
       ·refine EO.append hS 94 94 96 32 1 kS96 b6 b7 (a4.getD a0.toNat []) rfl (some ⟨c6, 0, none⟩) 1 a8 (Rd.own 0 96 rfl) b8 c5 (fun f6 i4 => Ass.own 96 kS96 (some ⟨c6, 0, none⟩) 1 a8 :: Ass.own 96 kS96 f6 i4 b8 :: Ass.box 91 a7 [.slice (some a1) a4.length a2, .slice a6 a3.length a5] :: Ass.holed 94 96 kS96 (some a1) a2 a4 a0.toNat (b6, (a4.getD a0.toNat []).length, b7) :: Ass.own 3 (Kd.int .i64) a6 a5 a3 :: os) 67 (by kernel_rfl) (by kernel_rfl) (by kernel_rfl) (by kernel_rfl) c4 (fun _ _ => rfl) ?_
        intro f6 i4 w hS
        have hC : Core B [Ass.own 3 (Kd.int .i64) a6 a5 a3] [] _ := ⟨_, _, hS.re [4] [] rfl sub_self⟩
        refine ⟨hC, ?_⟩
        refine ED.at' #[true, true, true, false, true, true, true, true, true, true, true, true, true, true, true, true, false, false] (by kernel_rfl) ?_
        refine ED.one 3 2 #[true, true, true, true, true, true, true, true, true, true, true, true, true, true, true, true, false, false] (by kernel_rfl) (by kernel_rfl) (by kernel_rfl) (EO.Y (YO.loadBox hS 2 rfl 89 0 1 (.slice (some a1) a4.length a2) 55 (by kernel_rfl) (by kernel_rfl) (by kernel_rfl) (by kernel_rfl)) ?_)
        have hC : Core B [Ass.own 3 (Kd.int .i64) a6 a5 a3] [] _ := ⟨_, _, hS.re [4] [] rfl sub_self⟩
        refine ⟨hC, ?_⟩
        refine ED.Y hN hF hC 16 1 #[true, true, true, true, true, true, true, true, true, true, true, true, true, true, true, true, true, false] (by kernel_rfl) (by kernel_rfl) rfl (fun _ _ _ hS => YO.idx 89 1 a1 a4.length a2 .i64 a0 68 (by kernel_rfl) (by kernel_rfl) (by kernel_rfl) (by kernel_rfl) b4 c0) ?_
        refine ED.one 17 0 #[true, true, true, true, true, true, true, true, true, true, true, true, true, true, true, true, true, true] (by kernel_rfl) (by kernel_rfl) (by kernel_rfl) (EO.closeEl hS 1 2 a1 a0 rfl rfl b4 b0 b5 (Ass.own 96 kS96 (some ⟨c6, 0, none⟩) 1 a8 :: Ass.box 91 a7 [.slice (some a1) a4.length a2, .slice a6 a3.length a5] :: Ass.deep 94 96 kS96 (some a1) a2 b0 :: Ass.own 3 (Kd.int .i64) a6 a5 a3 :: os) 94 (by kernel_rfl) (by kernel_rfl) (by kernel_rfl) (by kernel_rfl) rfl ?_)
        intro w hS
        have hS : St B w (Ass.own 96 kS96 (some ⟨c6, 0, none⟩) 1 a8 :: Ass.box 91 a7 [.slice (some a1) b0.length a2, .slice a6 a3.length a5] :: Ass.deep 94 96 kS96 (some a1) a2 b0 :: Ass.own 3 (Kd.int .i64) a6 a5 a3 :: os) (rs) := by simpa only [b5, List.length_set] using hS
        have hC : Core B [Ass.own 3 (Kd.int .i64) a6 a5 a3] [] _ := ⟨_, _, hS.re [3] [] rfl sub_self⟩
        refine ⟨hC, ?_⟩
        refine ED.keep [8, 9, 54, 55, 56, 59, 60, 61, 62, 65, 66, 68] [(8, .int .i32 b1), (9, .bool (b3)), (54, .pointer (some ⟨a7, 0, none⟩)), (55, .slice (some a1) a4.length a2), (56, .int .i64 a0), (59, .pointer (some ⟨a7, 0, none⟩)), (60, .slice (some a1) a4.length a2), (61, .int .i64 a0), (62, .pointer (some ((a1.add (a0.toNat * 1)).add 0))), (65, .agg #[.int .i64 a9, .int .i64 0, .int .i32 0, .int .i64 0]), (66, .slice (some ⟨c6, 0, none⟩) a8.length 1), (68, .pointer (some ((a1.add (a0.toNat * 1)).add 0)))] (by kernel_rfl) ?_
        refine ED.as' [(8, .int .i32 b1), (9, .bool (b3)), (54, .pointer (some ⟨a7, 0, none⟩)), (55, .slice (some a1) b0.length a2), (56, .int .i64 a0), (59, .pointer (some ⟨a7, 0, none⟩)), (60, .slice (some a1) b0.length a2), (61, .int .i64 a0), (62, .pointer (some ((a1.add (a0.toNat * 1)).add 0))), (65, .agg #[.int .i64 a9, .int .i64 0, .int .i32 0, .int .i64 0]), (66, .slice (some ⟨c6, 0, none⟩) a8.length 1), (68, .pointer (some ((a1.add (a0.toNat * 1)).add 0)))] (by simp only [b5, List.length_set]) ?_
        refine ED.done (by kernel_rfl) ?_
        refine EQ.to ?_
        refine EQ.keep [8, 9] [(8, .int .i32 b1), (9, .bool (b3))] (by kernel_rfl) ?_
        exact fun a ha => ⟨(some ⟨c6, 0, none⟩), 1, ha, (hS.re [3, 3, 3, 3] [] rfl (sub_self))⟩
     ·refine EO.lit hS kS96 96 94 1 #[(0, .agg #[.int .i64 a9, .int .i64 0, .int .i32 0, .int .i64 0])] [.int .i64 a9, .int .i64 0, .int .i32 0, .int .i64 0] a8 66 (by kernel_rfl) (by kernel_rfl) (by kernel_rfl) (fun _ => (by kernel_rfl)) (by rw [c2]; rfl) (by kernel_rfl) (fun w G hr => (by rw [c2]; exact ⟨[.int .i64 a9, .int .i64 0, .int .i32 0, .int .i64 0], [], rfl, ⟨[.int .i64 a9], [.int .i64 0, .int .i32 0, .int .i64 0], rfl, rfl, ⟨[.int .i64 0], [.int .i32 0, .int .i64 0], rfl, rfl, ⟨[.int .i32 0], [.int .i64 0], rfl, rfl, ⟨[.int .i64 0], [], rfl, rfl, rfl⟩⟩⟩⟩, rfl⟩)) ?_
      intro c1 w hS
      have hC : Core B [Ass.own 3 (Kd.int .i64) a6 a5 a3] [] _ := ⟨_, _, hS.re [4] [] rfl sub_self⟩
      refine ⟨hC, ?_⟩
      refine ED.at' #[true, true, true, false, true, true, true, true, true, true, true, false, true, true, true, false, false, false] (by kernel_rfl) ?_
      refine ED.two 3 11 4 (by kernel_rfl) (by kernel_rfl) ?_ ?_
      ·refine EO.Y (YO.loadBox hS 2 rfl 89 0 1 (.slice (some a1) a4.length a2) 55 (by kernel_rfl) (by kernel_rfl) (by kernel_rfl) (by kernel_rfl)) ?_
       have hC : Core B [Ass.own 3 (Kd.int .i64) a6 a5 a3] [] _ := ⟨_, _, hS.re [4] [] rfl sub_self⟩
       refine ⟨hC, ?_⟩
       refine ED.at' #[true, true, true, true, true, true, true, true, true, true, true, false, true, true, true, false, false, false] (by kernel_rfl) ?_
       refine ED.one 11 3 #[true, true, true, true, true, true, true, true, true, true, true, true, true, true, true, false, false, false] (by kernel_rfl) (by kernel_rfl) (by kernel_rfl) (EO.Y (YO.loadHole hS 3 a1 (j := a0) rfl b4 94 63 (by kernel_rfl) (by kernel_rfl) (by kernel_rfl) (by kernel_rfl)) ?_)
       have hC : Core B [Ass.own 3 (Kd.int .i64) a6 a5 a3] [] _ := ⟨_, _, hS.re [4] [] rfl sub_self⟩
       refine ⟨hC, ?_⟩
       refine ED.one 15 2 #[true, true, true, true, true, true, true, true, true, true, true, true, true, true, true, true, false, false] (by kernel_rfl) (by kernel_rfl) (by kernel_rfl) (EO.append hS 94 94 96 32 1 kS96 b6 b7 (a4.getD a0.toNat []) rfl (some ⟨c1, 0, none⟩) 1 a8 (Rd.own 0 96 rfl) b8 c5 (fun f7 i5 => Ass.own 96 kS96 (some ⟨c1, 0, none⟩) 1 a8 :: Ass.own 96 kS96 f7 i5 b8 :: Ass.box 91 a7 [.slice (some a1) a4.length a2, .slice a6 a3.length a5] :: Ass.holed 94 96 kS96 (some a1) a2 a4 a0.toNat (b6, (a4.getD a0.toNat []).length, b7) :: Ass.own 3 (Kd.int .i64) a6 a5 a3 :: os) 67 (by kernel_rfl) (by kernel_rfl) (by kernel_rfl) (by kernel_rfl) c4 (fun _ _ => rfl) ?_)
       intro f7 i5 w hS
       have hC : Core B [Ass.own 3 (Kd.int .i64) a6 a5 a3] [] _ := ⟨_, _, hS.re [4] [] rfl sub_self⟩
       refine ⟨hC, ?_⟩
       refine ED.Y hN hF hC 16 1 #[true, true, true, true, true, true, true, true, true, true, true, true, true, true, true, true, true, false] (by kernel_rfl) (by kernel_rfl) rfl (fun _ _ _ hS => YO.idx 89 1 a1 a4.length a2 .i64 a0 68 (by kernel_rfl) (by kernel_rfl) (by kernel_rfl) (by kernel_rfl) b4 c0) ?_
       refine ED.one 17 0 #[true, true, true, true, true, true, true, true, true, true, true, true, true, true, true, true, true, true] (by kernel_rfl) (by kernel_rfl) (by kernel_rfl) (EO.closeEl hS 1 2 a1 a0 rfl rfl b4 b0 b5 (Ass.own 96 kS96 (some ⟨c1, 0, none⟩) 1 a8 :: Ass.box 91 a7 [.slice (some a1) a4.length a2, .slice a6 a3.length a5] :: Ass.deep 94 96 kS96 (some a1) a2 b0 :: Ass.own 3 (Kd.int .i64) a6 a5 a3 :: os) 94 (by kernel_rfl) (by kernel_rfl) (by kernel_rfl) (by kernel_rfl) rfl ?_)
       intro w hS
       have hS : St B w (Ass.own 96 kS96 (some ⟨c1, 0, none⟩) 1 a8 :: Ass.box 91 a7 [.slice (some a1) b0.length a2, .slice a6 a3.length a5] :: Ass.deep 94 96 kS96 (some a1) a2 b0 :: Ass.own 3 (Kd.int .i64) a6 a5 a3 :: os) (rs) := by simpa only [b5, List.length_set] using hS
       have hC : Core B [Ass.own 3 (Kd.int .i64) a6 a5 a3] [] _ := ⟨_, _, hS.re [3] [] rfl sub_self⟩
       refine ⟨hC, ?_⟩
       refine ED.keep [8, 9, 54, 55, 56, 59, 60, 61, 62, 65, 66, 68] [(8, .int .i32 b1), (9, .bool (b3)), (54, .pointer (some ⟨a7, 0, none⟩)), (55, .slice (some a1) a4.length a2), (56, .int .i64 a0), (59, .pointer (some ⟨a7, 0, none⟩)), (60, .slice (some a1) a4.length a2), (61, .int .i64 a0), (62, .pointer (some ((a1.add (a0.toNat * 1)).add 0))), (65, .agg #[.int .i64 a9, .int .i64 0, .int .i32 0, .int .i64 0]), (66, .slice (some ⟨c1, 0, none⟩) a8.length 1), (68, .pointer (some ((a1.add (a0.toNat * 1)).add 0)))] (by kernel_rfl) ?_
       refine ED.as' [(8, .int .i32 b1), (9, .bool (b3)), (54, .pointer (some ⟨a7, 0, none⟩)), (55, .slice (some a1) b0.length a2), (56, .int .i64 a0), (59, .pointer (some ⟨a7, 0, none⟩)), (60, .slice (some a1) b0.length a2), (61, .int .i64 a0), (62, .pointer (some ((a1.add (a0.toNat * 1)).add 0))), (65, .agg #[.int .i64 a9, .int .i64 0, .int .i32 0, .int .i64 0]), (66, .slice (some ⟨c1, 0, none⟩) a8.length 1), (68, .pointer (some ((a1.add (a0.toNat * 1)).add 0)))] (by simp only [b5, List.length_set]) ?_
       refine ED.done (by kernel_rfl) ?_
       refine EQ.to ?_
       refine EQ.keep [8, 9] [(8, .int .i32 b1), (9, .bool (b3))] (by kernel_rfl) ?_
       exact fun a ha => ⟨(some ⟨c1, 0, none⟩), 1, ha, (hS.re [3, 3, 3, 3] [] rfl (sub_self))⟩
      ·refine EO.Y (YO.loadHole hS 3 a1 (j := a0) rfl b4 94 63 (by kernel_rfl) (by kernel_rfl) (by kernel_rfl) (by kernel_rfl)) ?_
       have hC : Core B [Ass.own 3 (Kd.int .i64) a6 a5 a3] [] _ := ⟨_, _, hS.re [4] [] rfl sub_self⟩
       refine ⟨hC, ?_⟩
       refine ED.at' #[true, true, true, false, true, true, true, true, true, true, true, true, true, true, true, false, false, false] (by kernel_rfl) ?_
       refine ED.two 3 15 3 (by kernel_rfl) (by kernel_rfl) ?_ ?_
       ·refine EO.Y (YO.loadBox hS 2 rfl 89 0 1 (.slice (some a1) a4.length a2) 55 (by kernel_rfl) (by kernel_rfl) (by kernel_rfl) (by kernel_rfl)) ?_
        have hC : Core B [Ass.own 3 (Kd.int .i64) a6 a5 a3] [] _ := ⟨_, _, hS.re [4] [] rfl sub_self⟩
        refine ⟨hC, ?_⟩
        refine ED.at' #[true, true, true, true, true, true, true, true, true, true, true, true, true, true, true, false, false, false] (by kernel_rfl) ?_
        refine ED.one 15 2 #[true, true, true, true, true, true, true, true, true, true, true, true, true, true, true, true, false, false] (by kernel_rfl) (by kernel_rfl) (by kernel_rfl) (EO.append hS 94 94 96 32 1 kS96 b6 b7 (a4.getD a0.toNat []) rfl (some ⟨c1, 0, none⟩) 1 a8 (Rd.own 0 96 rfl) b8 c5 (fun f8 i6 => Ass.own 96 kS96 (some ⟨c1, 0, none⟩) 1 a8 :: Ass.own 96 kS96 f8 i6 b8 :: Ass.box 91 a7 [.slice (some a1) a4.length a2, .slice a6 a3.length a5] :: Ass.holed 94 96 kS96 (some a1) a2 a4 a0.toNat (b6, (a4.getD a0.toNat []).length, b7) :: Ass.own 3 (Kd.int .i64) a6 a5 a3 :: os) 67 (by kernel_rfl) (by kernel_rfl) (by kernel_rfl) (by kernel_rfl) c4 (fun _ _ => rfl) ?_)
        intro f8 i6 w hS
        have hC : Core B [Ass.own 3 (Kd.int .i64) a6 a5 a3] [] _ := ⟨_, _, hS.re [4] [] rfl sub_self⟩
        refine ⟨hC, ?_⟩
        refine ED.Y hN hF hC 16 1 #[true, true, true, true, true, true, true, true, true, true, true, true, true, true, true, true, true, false] (by kernel_rfl) (by kernel_rfl) rfl (fun _ _ _ hS => YO.idx 89 1 a1 a4.length a2 .i64 a0 68 (by kernel_rfl) (by kernel_rfl) (by kernel_rfl) (by kernel_rfl) b4 c0) ?_
        refine ED.one 17 0 #[true, true, true, true, true, true, true, true, true, true, true, true, true, true, true, true, true, true] (by kernel_rfl) (by kernel_rfl) (by kernel_rfl) (EO.closeEl hS 1 2 a1 a0 rfl rfl b4 b0 b5 (Ass.own 96 kS96 (some ⟨c1, 0, none⟩) 1 a8 :: Ass.box 91 a7 [.slice (some a1) a4.length a2, .slice a6 a3.length a5] :: Ass.deep 94 96 kS96 (some a1) a2 b0 :: Ass.own 3 (Kd.int .i64) a6 a5 a3 :: os) 94 (by kernel_rfl) (by kernel_rfl) (by kernel_rfl) (by kernel_rfl) rfl ?_)
        intro w hS
        have hS : St B w (Ass.own 96 kS96 (some ⟨c1, 0, none⟩) 1 a8 :: Ass.box 91 a7 [.slice (some a1) b0.length a2, .slice a6 a3.length a5] :: Ass.deep 94 96 kS96 (some a1) a2 b0 :: Ass.own 3 (Kd.int .i64) a6 a5 a3 :: os) (rs) := by simpa only [b5, List.length_set] using hS
        have hC : Core B [Ass.own 3 (Kd.int .i64) a6 a5 a3] [] _ := ⟨_, _, hS.re [3] [] rfl sub_self⟩
        refine ⟨hC, ?_⟩
        refine ED.keep [8, 9, 54, 55, 56, 59, 60, 61, 62, 65, 66, 68] [(8, .int .i32 b1), (9, .bool (b3)), (54, .pointer (some ⟨a7, 0, none⟩)), (55, .slice (some a1) a4.length a2), (56, .int .i64 a0), (59, .pointer (some ⟨a7, 0, none⟩)), (60, .slice (some a1) a4.length a2), (61, .int .i64 a0), (62, .pointer (some ((a1.add (a0.toNat * 1)).add 0))), (65, .agg #[.int .i64 a9, .int .i64 0, .int .i32 0, .int .i64 0]), (66, .slice (some ⟨c1, 0, none⟩) a8.length 1), (68, .pointer (some ((a1.add (a0.toNat * 1)).add 0)))] (by kernel_rfl) ?_
        refine ED.as' [(8, .int .i32 b1), (9, .bool (b3)), (54, .pointer (some ⟨a7, 0, none⟩)), (55, .slice (some a1) b0.length a2), (56, .int .i64 a0), (59, .pointer (some ⟨a7, 0, none⟩)), (60, .slice (some a1) b0.length a2), (61, .int .i64 a0), (62, .pointer (some ((a1.add (a0.toNat * 1)).add 0))), (65, .agg #[.int .i64 a9, .int .i64 0, .int .i32 0, .int .i64 0]), (66, .slice (some ⟨c1, 0, none⟩) a8.length 1), (68, .pointer (some ((a1.add (a0.toNat * 1)).add 0)))] (by simp only [b5, List.length_set]) ?_
        refine ED.done (by kernel_rfl) ?_
        refine EQ.to ?_
        refine EQ.keep [8, 9] [(8, .int .i32 b1), (9, .bool (b3))] (by kernel_rfl) ?_
        exact fun a ha => ⟨(some ⟨c1, 0, none⟩), 1, ha, (hS.re [3, 3, 3, 3] [] rfl (sub_self))⟩
       ·refine EO.append hS 94 94 96 32 1 kS96 b6 b7 (a4.getD a0.toNat []) rfl (some ⟨c1, 0, none⟩) 1 a8 (Rd.own 0 96 rfl) b8 c5 (fun f9 i7 => Ass.own 96 kS96 (some ⟨c1, 0, none⟩) 1 a8 :: Ass.own 96 kS96 f9 i7 b8 :: Ass.box 91 a7 [.slice (some a1) a4.length a2, .slice a6 a3.length a5] :: Ass.holed 94 96 kS96 (some a1) a2 a4 a0.toNat (b6, (a4.getD a0.toNat []).length, b7) :: Ass.own 3 (Kd.int .i64) a6 a5 a3 :: os) 67 (by kernel_rfl) (by kernel_rfl) (by kernel_rfl) (by kernel_rfl) c4 (fun _ _ => rfl) ?_
        intro f9 i7 w hS
        have hC : Core B [Ass.own 3 (Kd.int .i64) a6 a5 a3] [] _ := ⟨_, _, hS.re [4] [] rfl sub_self⟩
        refine ⟨hC, ?_⟩
        refine ED.at' #[true, true, true, false, true, true, true, true, true, true, true, true, true, true, true, true, false, false] (by kernel_rfl) ?_
        refine ED.one 3 2 #[true, true, true, true, true, true, true, true, true, true, true, true, true, true, true, true, false, false] (by kernel_rfl) (by kernel_rfl) (by kernel_rfl) (EO.Y (YO.loadBox hS 2 rfl 89 0 1 (.slice (some a1) a4.length a2) 55 (by kernel_rfl) (by kernel_rfl) (by kernel_rfl) (by kernel_rfl)) ?_)
        have hC : Core B [Ass.own 3 (Kd.int .i64) a6 a5 a3] [] _ := ⟨_, _, hS.re [4] [] rfl sub_self⟩
        refine ⟨hC, ?_⟩
        refine ED.Y hN hF hC 16 1 #[true, true, true, true, true, true, true, true, true, true, true, true, true, true, true, true, true, false] (by kernel_rfl) (by kernel_rfl) rfl (fun _ _ _ hS => YO.idx 89 1 a1 a4.length a2 .i64 a0 68 (by kernel_rfl) (by kernel_rfl) (by kernel_rfl) (by kernel_rfl) b4 c0) ?_
        refine ED.one 17 0 #[true, true, true, true, true, true, true, true, true, true, true, true, true, true, true, true, true, true] (by kernel_rfl) (by kernel_rfl) (by kernel_rfl) (EO.closeEl hS 1 2 a1 a0 rfl rfl b4 b0 b5 (Ass.own 96 kS96 (some ⟨c1, 0, none⟩) 1 a8 :: Ass.box 91 a7 [.slice (some a1) a4.length a2, .slice a6 a3.length a5] :: Ass.deep 94 96 kS96 (some a1) a2 b0 :: Ass.own 3 (Kd.int .i64) a6 a5 a3 :: os) 94 (by kernel_rfl) (by kernel_rfl) (by kernel_rfl) (by kernel_rfl) rfl ?_)
        intro w hS
        have hS : St B w (Ass.own 96 kS96 (some ⟨c1, 0, none⟩) 1 a8 :: Ass.box 91 a7 [.slice (some a1) b0.length a2, .slice a6 a3.length a5] :: Ass.deep 94 96 kS96 (some a1) a2 b0 :: Ass.own 3 (Kd.int .i64) a6 a5 a3 :: os) (rs) := by simpa only [b5, List.length_set] using hS
        have hC : Core B [Ass.own 3 (Kd.int .i64) a6 a5 a3] [] _ := ⟨_, _, hS.re [3] [] rfl sub_self⟩
        refine ⟨hC, ?_⟩
        refine ED.keep [8, 9, 54, 55, 56, 59, 60, 61, 62, 65, 66, 68] [(8, .int .i32 b1), (9, .bool (b3)), (54, .pointer (some ⟨a7, 0, none⟩)), (55, .slice (some a1) a4.length a2), (56, .int .i64 a0), (59, .pointer (some ⟨a7, 0, none⟩)), (60, .slice (some a1) a4.length a2), (61, .int .i64 a0), (62, .pointer (some ((a1.add (a0.toNat * 1)).add 0))), (65, .agg #[.int .i64 a9, .int .i64 0, .int .i32 0, .int .i64 0]), (66, .slice (some ⟨c1, 0, none⟩) a8.length 1), (68, .pointer (some ((a1.add (a0.toNat * 1)).add 0)))] (by kernel_rfl) ?_
        refine ED.as' [(8, .int .i32 b1), (9, .bool (b3)), (54, .pointer (some ⟨a7, 0, none⟩)), (55, .slice (some a1) b0.length a2), (56, .int .i64 a0), (59, .pointer (some ⟨a7, 0, none⟩)), (60, .slice (some a1) b0.length a2), (61, .int .i64 a0), (62, .pointer (some ((a1.add (a0.toNat * 1)).add 0))), (65, .agg #[.int .i64 a9, .int .i64 0, .int .i32 0, .int .i64 0]), (66, .slice (some ⟨c1, 0, none⟩) a8.length 1), (68, .pointer (some ((a1.add (a0.toNat * 1)).add 0)))] (by simp only [b5, List.length_set]) ?_
        refine ED.done (by kernel_rfl) ?_
        refine EQ.to ?_
        refine EQ.keep [8, 9] [(8, .int .i32 b1), (9, .bool (b3))] (by kernel_rfl) ?_
        exact fun a ha => ⟨(some ⟨c1, 0, none⟩), 1, ha, (hS.re [3, 3, 3, 3] [] rfl (sub_self))⟩
    ·refine EO.lit hS kS96 96 94 1 #[(0, .agg #[.int .i64 a9, .int .i64 0, .int .i32 0, .int .i64 0])] [.int .i64 a9, .int .i64 0, .int .i32 0, .int .i64 0] a8 66 (by kernel_rfl) (by kernel_rfl) (by kernel_rfl) (fun _ => (by kernel_rfl)) (by rw [c2]; rfl) (by kernel_rfl) (fun w G hr => (by rw [c2]; exact ⟨[.int .i64 a9, .int .i64 0, .int .i32 0, .int .i64 0], [], rfl, ⟨[.int .i64 a9], [.int .i64 0, .int .i32 0, .int .i64 0], rfl, rfl, ⟨[.int .i64 0], [.int .i32 0, .int .i64 0], rfl, rfl, ⟨[.int .i32 0], [.int .i64 0], rfl, rfl, ⟨[.int .i64 0], [], rfl, rfl, rfl⟩⟩⟩⟩, rfl⟩)) ?_
     intro b9 w hS
     have hC : Core B [Ass.own 3 (Kd.int .i64) a6 a5 a3] [] _ := ⟨_, _, hS.re [4] [] rfl sub_self⟩
     refine ⟨hC, ?_⟩
     refine ED.at' #[true, true, true, false, true, true, true, true, false, true, false, false, true, true, true, false, false, false] (by kernel_rfl) ?_
     refine ED.two 3 8 6 (by kernel_rfl) (by kernel_rfl) ?_ ?_
     ·refine EO.Y (YO.loadBox hS 2 rfl 89 0 1 (.slice (some a1) a4.length a2) 55 (by kernel_rfl) (by kernel_rfl) (by kernel_rfl) (by kernel_rfl)) ?_
      have hC : Core B [Ass.own 3 (Kd.int .i64) a6 a5 a3] [] _ := ⟨_, _, hS.re [4] [] rfl sub_self⟩
      refine ⟨hC, ?_⟩
      refine ED.at' #[true, true, true, true, true, true, true, true, false, true, false, false, true, true, true, false, false, false] (by kernel_rfl) ?_
      refine ED.one 8 5 #[true, true, true, true, true, true, true, true, true, true, false, false, true, true, true, false, false, false] (by kernel_rfl) (by kernel_rfl) (by kernel_rfl) (EO.Y (YO.loadBox hS 2 rfl 89 0 1 (.slice (some a1) a4.length a2) 60 (by kernel_rfl) (by kernel_rfl) (by kernel_rfl) (by kernel_rfl)) ?_)
      have hC : Core B [Ass.own 3 (Kd.int .i64) a6 a5 a3] [] _ := ⟨_, _, hS.re [4] [] rfl sub_self⟩
      refine ⟨hC, ?_⟩
      refine ED.Y hN hF hC 10 4 #[true, true, true, true, true, true, true, true, true, true, true, false, true, true, true, false, false, false] (by kernel_rfl) (by kernel_rfl) rfl (fun _ _ _ hS => YO.idx 89 1 a1 a4.length a2 .i64 a0 62 (by kernel_rfl) (by kernel_rfl) (by kernel_rfl) (by kernel_rfl) b4 c0) ?_
      refine ED.one 11 3 #[true, true, true, true, true, true, true, true, true, true, true, true, true, true, true, false, false, false] (by kernel_rfl) (by kernel_rfl) (by kernel_rfl) (EO.Y (YO.loadHole hS 3 a1 (j := a0) rfl b4 94 63 (by kernel_rfl) (by kernel_rfl) (by kernel_rfl) (by kernel_rfl)) ?_)
      have hC : Core B [Ass.own 3 (Kd.int .i64) a6 a5 a3] [] _ := ⟨_, _, hS.re [4] [] rfl sub_self⟩
      refine ⟨hC, ?_⟩
      refine ED.one 15 2 #[true, true, true, true, true, true, true, true, true, true, true, true, true, true, true, true, false, false] (by kernel_rfl) (by kernel_rfl) (by kernel_rfl) (EO.append hS 94 94 96 32 1 kS96 b6 b7 (a4.getD a0.toNat []) rfl (some ⟨b9, 0, none⟩) 1 a8 (Rd.own 0 96 rfl) b8 c5 (fun g0 i8 => Ass.own 96 kS96 (some ⟨b9, 0, none⟩) 1 a8 :: Ass.own 96 kS96 g0 i8 b8 :: Ass.box 91 a7 [.slice (some a1) a4.length a2, .slice a6 a3.length a5] :: Ass.holed 94 96 kS96 (some a1) a2 a4 a0.toNat (b6, (a4.getD a0.toNat []).length, b7) :: Ass.own 3 (Kd.int .i64) a6 a5 a3 :: os) 67 (by kernel_rfl) (by kernel_rfl) (by kernel_rfl) (by kernel_rfl) c4 (fun _ _ => rfl) ?_)
      intro g0 i8 w hS
      have hC : Core B [Ass.own 3 (Kd.int .i64) a6 a5 a3] [] _ := ⟨_, _, hS.re [4] [] rfl sub_self⟩
      refine ⟨hC, ?_⟩
      refine ED.Y hN hF hC 16 1 #[true, true, true, true, true, true, true, true, true, true, true, true, true, true, true, true, true, false] (by kernel_rfl) (by kernel_rfl) rfl (fun _ _ _ hS => YO.idx 89 1 a1 a4.length a2 .i64 a0 68 (by kernel_rfl) (by kernel_rfl) (by kernel_rfl) (by kernel_rfl) b4 c0) ?_
      refine ED.one 17 0 #[true, true, true, true, true, true, true, true, true, true, true, true, true, true, true, true, true, true] (by kernel_rfl) (by kernel_rfl) (by kernel_rfl) (EO.closeEl hS 1 2 a1 a0 rfl rfl b4 b0 b5 (Ass.own 96 kS96 (some ⟨b9, 0, none⟩) 1 a8 :: Ass.box 91 a7 [.slice (some a1) a4.length a2, .slice a6 a3.length a5] :: Ass.deep 94 96 kS96 (some a1) a2 b0 :: Ass.own 3 (Kd.int .i64) a6 a5 a3 :: os) 94 (by kernel_rfl) (by kernel_rfl) (by kernel_rfl) (by kernel_rfl) rfl ?_)
      intro w hS
      have hS : St B w (Ass.own 96 kS96 (some ⟨b9, 0, none⟩) 1 a8 :: Ass.box 91 a7 [.slice (some a1) b0.length a2, .slice a6 a3.length a5] :: Ass.deep 94 96 kS96 (some a1) a2 b0 :: Ass.own 3 (Kd.int .i64) a6 a5 a3 :: os) (rs) := by simpa only [b5, List.length_set] using hS
      have hC : Core B [Ass.own 3 (Kd.int .i64) a6 a5 a3] [] _ := ⟨_, _, hS.re [3] [] rfl sub_self⟩
      refine ⟨hC, ?_⟩
      refine ED.keep [8, 9, 54, 55, 56, 59, 60, 61, 62, 65, 66, 68] [(8, .int .i32 b1), (9, .bool (b3)), (54, .pointer (some ⟨a7, 0, none⟩)), (55, .slice (some a1) a4.length a2), (56, .int .i64 a0), (59, .pointer (some ⟨a7, 0, none⟩)), (60, .slice (some a1) a4.length a2), (61, .int .i64 a0), (62, .pointer (some ((a1.add (a0.toNat * 1)).add 0))), (65, .agg #[.int .i64 a9, .int .i64 0, .int .i32 0, .int .i64 0]), (66, .slice (some ⟨b9, 0, none⟩) a8.length 1), (68, .pointer (some ((a1.add (a0.toNat * 1)).add 0)))] (by kernel_rfl) ?_
      refine ED.as' [(8, .int .i32 b1), (9, .bool (b3)), (54, .pointer (some ⟨a7, 0, none⟩)), (55, .slice (some a1) b0.length a2), (56, .int .i64 a0), (59, .pointer (some ⟨a7, 0, none⟩)), (60, .slice (some a1) b0.length a2), (61, .int .i64 a0), (62, .pointer (some ((a1.add (a0.toNat * 1)).add 0))), (65, .agg #[.int .i64 a9, .int .i64 0, .int .i32 0, .int .i64 0]), (66, .slice (some ⟨b9, 0, none⟩) a8.length 1), (68, .pointer (some ((a1.add (a0.toNat * 1)).add 0)))] (by simp only [b5, List.length_set]) ?_
      refine ED.done (by kernel_rfl) ?_
      refine EQ.to ?_
      refine EQ.keep [8, 9] [(8, .int .i32 b1), (9, .bool (b3))] (by kernel_rfl) ?_
      exact fun a ha => ⟨(some ⟨b9, 0, none⟩), 1, ha, (hS.re [3, 3, 3, 3] [] rfl (sub_self))⟩
     ·refine EO.Y (YO.loadBox hS 2 rfl 89 0 1 (.slice (some a1) a4.length a2) 60 (by kernel_rfl) (by kernel_rfl) (by kernel_rfl) (by kernel_rfl)) ?_
      have hC : Core B [Ass.own 3 (Kd.int .i64) a6 a5 a3] [] _ := ⟨_, _, hS.re [4] [] rfl sub_self⟩
      refine ⟨hC, ?_⟩
      refine ED.at' #[true, true, true, false, true, true, true, true, true, true, false, false, true, true, true, false, false, false] (by kernel_rfl) ?_
      refine ED.Y hN hF hC 10 5 #[true, true, true, false, true, true, true, true, true, true, true, false, true, true, true, false, false, false] (by kernel_rfl) (by kernel_rfl) rfl (fun _ _ _ hS => YO.idx 89 1 a1 a4.length a2 .i64 a0 62 (by kernel_rfl) (by kernel_rfl) (by kernel_rfl) (by kernel_rfl) b4 c0) ?_
      refine ED.two 3 11 4 (by kernel_rfl) (by kernel_rfl) ?_ ?_
      ·refine EO.Y (YO.loadBox hS 2 rfl 89 0 1 (.slice (some a1) a4.length a2) 55 (by kernel_rfl) (by kernel_rfl) (by kernel_rfl) (by kernel_rfl)) ?_
       have hC : Core B [Ass.own 3 (Kd.int .i64) a6 a5 a3] [] _ := ⟨_, _, hS.re [4] [] rfl sub_self⟩
       refine ⟨hC, ?_⟩
       refine ED.at' #[true, true, true, true, true, true, true, true, true, true, true, false, true, true, true, false, false, false] (by kernel_rfl) ?_
       refine ED.one 11 3 #[true, true, true, true, true, true, true, true, true, true, true, true, true, true, true, false, false, false] (by kernel_rfl) (by kernel_rfl) (by kernel_rfl) (EO.Y (YO.loadHole hS 3 a1 (j := a0) rfl b4 94 63 (by kernel_rfl) (by kernel_rfl) (by kernel_rfl) (by kernel_rfl)) ?_)
       have hC : Core B [Ass.own 3 (Kd.int .i64) a6 a5 a3] [] _ := ⟨_, _, hS.re [4] [] rfl sub_self⟩
       refine ⟨hC, ?_⟩
       refine ED.one 15 2 #[true, true, true, true, true, true, true, true, true, true, true, true, true, true, true, true, false, false] (by kernel_rfl) (by kernel_rfl) (by kernel_rfl) (EO.append hS 94 94 96 32 1 kS96 b6 b7 (a4.getD a0.toNat []) rfl (some ⟨b9, 0, none⟩) 1 a8 (Rd.own 0 96 rfl) b8 c5 (fun g1 i9 => Ass.own 96 kS96 (some ⟨b9, 0, none⟩) 1 a8 :: Ass.own 96 kS96 g1 i9 b8 :: Ass.box 91 a7 [.slice (some a1) a4.length a2, .slice a6 a3.length a5] :: Ass.holed 94 96 kS96 (some a1) a2 a4 a0.toNat (b6, (a4.getD a0.toNat []).length, b7) :: Ass.own 3 (Kd.int .i64) a6 a5 a3 :: os) 67 (by kernel_rfl) (by kernel_rfl) (by kernel_rfl) (by kernel_rfl) c4 (fun _ _ => rfl) ?_)
       intro g1 i9 w hS
       have hC : Core B [Ass.own 3 (Kd.int .i64) a6 a5 a3] [] _ := ⟨_, _, hS.re [4] [] rfl sub_self⟩
       refine ⟨hC, ?_⟩
       refine ED.Y hN hF hC 16 1 #[true, true, true, true, true, true, true, true, true, true, true, true, true, true, true, true, true, false] (by kernel_rfl) (by kernel_rfl) rfl (fun _ _ _ hS => YO.idx 89 1 a1 a4.length a2 .i64 a0 68 (by kernel_rfl) (by kernel_rfl) (by kernel_rfl) (by kernel_rfl) b4 c0) ?_
       refine ED.one 17 0 #[true, true, true, true, true, true, true, true, true, true, true, true, true, true, true, true, true, true] (by kernel_rfl) (by kernel_rfl) (by kernel_rfl) (EO.closeEl hS 1 2 a1 a0 rfl rfl b4 b0 b5 (Ass.own 96 kS96 (some ⟨b9, 0, none⟩) 1 a8 :: Ass.box 91 a7 [.slice (some a1) a4.length a2, .slice a6 a3.length a5] :: Ass.deep 94 96 kS96 (some a1) a2 b0 :: Ass.own 3 (Kd.int .i64) a6 a5 a3 :: os) 94 (by kernel_rfl) (by kernel_rfl) (by kernel_rfl) (by kernel_rfl) rfl ?_)
       intro w hS
       have hS : St B w (Ass.own 96 kS96 (some ⟨b9, 0, none⟩) 1 a8 :: Ass.box 91 a7 [.slice (some a1) b0.length a2, .slice a6 a3.length a5] :: Ass.deep 94 96 kS96 (some a1) a2 b0 :: Ass.own 3 (Kd.int .i64) a6 a5 a3 :: os) (rs) := by simpa only [b5, List.length_set] using hS
       have hC : Core B [Ass.own 3 (Kd.int .i64) a6 a5 a3] [] _ := ⟨_, _, hS.re [3] [] rfl sub_self⟩
       refine ⟨hC, ?_⟩
       refine ED.keep [8, 9, 54, 55, 56, 59, 60, 61, 62, 65, 66, 68] [(8, .int .i32 b1), (9, .bool (b3)), (54, .pointer (some ⟨a7, 0, none⟩)), (55, .slice (some a1) a4.length a2), (56, .int .i64 a0), (59, .pointer (some ⟨a7, 0, none⟩)), (60, .slice (some a1) a4.length a2), (61, .int .i64 a0), (62, .pointer (some ((a1.add (a0.toNat * 1)).add 0))), (65, .agg #[.int .i64 a9, .int .i64 0, .int .i32 0, .int .i64 0]), (66, .slice (some ⟨b9, 0, none⟩) a8.length 1), (68, .pointer (some ((a1.add (a0.toNat * 1)).add 0)))] (by kernel_rfl) ?_
       refine ED.as' [(8, .int .i32 b1), (9, .bool (b3)), (54, .pointer (some ⟨a7, 0, none⟩)), (55, .slice (some a1) b0.length a2), (56, .int .i64 a0), (59, .pointer (some ⟨a7, 0, none⟩)), (60, .slice (some a1) b0.length a2), (61, .int .i64 a0), (62, .pointer (some ((a1.add (a0.toNat * 1)).add 0))), (65, .agg #[.int .i64 a9, .int .i64 0, .int .i32 0, .int .i64 0]), (66, .slice (some ⟨b9, 0, none⟩) a8.length 1), (68, .pointer (some ((a1.add (a0.toNat * 1)).add 0)))] (by simp only [b5, List.length_set]) ?_
       refine ED.done (by kernel_rfl) ?_
       refine EQ.to ?_
       refine EQ.keep [8, 9] [(8, .int .i32 b1), (9, .bool (b3))] (by kernel_rfl) ?_
       exact fun a ha => ⟨(some ⟨b9, 0, none⟩), 1, ha, (hS.re [3, 3, 3, 3] [] rfl (sub_self))⟩
      ·refine EO.Y (YO.loadHole hS 3 a1 (j := a0) rfl b4 94 63 (by kernel_rfl) (by kernel_rfl) (by kernel_rfl) (by kernel_rfl)) ?_
       have hC : Core B [Ass.own 3 (Kd.int .i64) a6 a5 a3] [] _ := ⟨_, _, hS.re [4] [] rfl sub_self⟩
       refine ⟨hC, ?_⟩
       refine ED.at' #[true, true, true, false, true, true, true, true, true, true, true, true, true, true, true, false, false, false] (by kernel_rfl) ?_
       refine ED.two 3 15 3 (by kernel_rfl) (by kernel_rfl) ?_ ?_
       ·refine EO.Y (YO.loadBox hS 2 rfl 89 0 1 (.slice (some a1) a4.length a2) 55 (by kernel_rfl) (by kernel_rfl) (by kernel_rfl) (by kernel_rfl)) ?_
        have hC : Core B [Ass.own 3 (Kd.int .i64) a6 a5 a3] [] _ := ⟨_, _, hS.re [4] [] rfl sub_self⟩
        refine ⟨hC, ?_⟩
        refine ED.at' #[true, true, true, true, true, true, true, true, true, true, true, true, true, true, true, false, false, false] (by kernel_rfl) ?_
        refine ED.one 15 2 #[true, true, true, true, true, true, true, true, true, true, true, true, true, true, true, true, false, false] (by kernel_rfl) (by kernel_rfl) (by kernel_rfl) (EO.append hS 94 94 96 32 1 kS96 b6 b7 (a4.getD a0.toNat []) rfl (some ⟨b9, 0, none⟩) 1 a8 (Rd.own 0 96 rfl) b8 c5 (fun g2 j0 => Ass.own 96 kS96 (some ⟨b9, 0, none⟩) 1 a8 :: Ass.own 96 kS96 g2 j0 b8 :: Ass.box 91 a7 [.slice (some a1) a4.length a2, .slice a6 a3.length a5] :: Ass.holed 94 96 kS96 (some a1) a2 a4 a0.toNat (b6, (a4.getD a0.toNat []).length, b7) :: Ass.own 3 (Kd.int .i64) a6 a5 a3 :: os) 67 (by kernel_rfl) (by kernel_rfl) (by kernel_rfl) (by kernel_rfl) c4 (fun _ _ => rfl) ?_)
        intro g2 j0 w hS
        have hC : Core B [Ass.own 3 (Kd.int .i64) a6 a5 a3] [] _ := ⟨_, _, hS.re [4] [] rfl sub_self⟩
        refine ⟨hC, ?_⟩
        refine ED.Y hN hF hC 16 1 #[true, true, true, true, true, true, true, true, true, true, true, true, true, true, true, true, true, false] (by kernel_rfl) (by kernel_rfl) rfl (fun _ _ _ hS => YO.idx 89 1 a1 a4.length a2 .i64 a0 68 (by kernel_rfl) (by kernel_rfl) (by kernel_rfl) (by kernel_rfl) b4 c0) ?_
        refine ED.one 17 0 #[true, true, true, true, true, true, true, true, true, true, true, true, true, true, true, true, true, true] (by kernel_rfl) (by kernel_rfl) (by kernel_rfl) (EO.closeEl hS 1 2 a1 a0 rfl rfl b4 b0 b5 (Ass.own 96 kS96 (some ⟨b9, 0, none⟩) 1 a8 :: Ass.box 91 a7 [.slice (some a1) a4.length a2, .slice a6 a3.length a5] :: Ass.deep 94 96 kS96 (some a1) a2 b0 :: Ass.own 3 (Kd.int .i64) a6 a5 a3 :: os) 94 (by kernel_rfl) (by kernel_rfl) (by kernel_rfl) (by kernel_rfl) rfl ?_)
        intro w hS
        have hS : St B w (Ass.own 96 kS96 (some ⟨b9, 0, none⟩) 1 a8 :: Ass.box 91 a7 [.slice (some a1) b0.length a2, .slice a6 a3.length a5] :: Ass.deep 94 96 kS96 (some a1) a2 b0 :: Ass.own 3 (Kd.int .i64) a6 a5 a3 :: os) (rs) := by simpa only [b5, List.length_set] using hS
        have hC : Core B [Ass.own 3 (Kd.int .i64) a6 a5 a3] [] _ := ⟨_, _, hS.re [3] [] rfl sub_self⟩
        refine ⟨hC, ?_⟩
        refine ED.keep [8, 9, 54, 55, 56, 59, 60, 61, 62, 65, 66, 68] [(8, .int .i32 b1), (9, .bool (b3)), (54, .pointer (some ⟨a7, 0, none⟩)), (55, .slice (some a1) a4.length a2), (56, .int .i64 a0), (59, .pointer (some ⟨a7, 0, none⟩)), (60, .slice (some a1) a4.length a2), (61, .int .i64 a0), (62, .pointer (some ((a1.add (a0.toNat * 1)).add 0))), (65, .agg #[.int .i64 a9, .int .i64 0, .int .i32 0, .int .i64 0]), (66, .slice (some ⟨b9, 0, none⟩) a8.length 1), (68, .pointer (some ((a1.add (a0.toNat * 1)).add 0)))] (by kernel_rfl) ?_
        refine ED.as' [(8, .int .i32 b1), (9, .bool (b3)), (54, .pointer (some ⟨a7, 0, none⟩)), (55, .slice (some a1) b0.length a2), (56, .int .i64 a0), (59, .pointer (some ⟨a7, 0, none⟩)), (60, .slice (some a1) b0.length a2), (61, .int .i64 a0), (62, .pointer (some ((a1.add (a0.toNat * 1)).add 0))), (65, .agg #[.int .i64 a9, .int .i64 0, .int .i32 0, .int .i64 0]), (66, .slice (some ⟨b9, 0, none⟩) a8.length 1), (68, .pointer (some ((a1.add (a0.toNat * 1)).add 0)))] (by simp only [b5, List.length_set]) ?_
        refine ED.done (by kernel_rfl) ?_
        refine EQ.to ?_
        refine EQ.keep [8, 9] [(8, .int .i32 b1), (9, .bool (b3))] (by kernel_rfl) ?_
        exact fun a ha => ⟨(some ⟨b9, 0, none⟩), 1, ha, (hS.re [3, 3, 3, 3] [] rfl (sub_self))⟩
       ·refine EO.append hS 94 94 96 32 1 kS96 b6 b7 (a4.getD a0.toNat []) rfl (some ⟨b9, 0, none⟩) 1 a8 (Rd.own 0 96 rfl) b8 c5 (fun g3 j1 => Ass.own 96 kS96 (some ⟨b9, 0, none⟩) 1 a8 :: Ass.own 96 kS96 g3 j1 b8 :: Ass.box 91 a7 [.slice (some a1) a4.length a2, .slice a6 a3.length a5] :: Ass.holed 94 96 kS96 (some a1) a2 a4 a0.toNat (b6, (a4.getD a0.toNat []).length, b7) :: Ass.own 3 (Kd.int .i64) a6 a5 a3 :: os) 67 (by kernel_rfl) (by kernel_rfl) (by kernel_rfl) (by kernel_rfl) c4 (fun _ _ => rfl) ?_
        intro g3 j1 w hS
        have hC : Core B [Ass.own 3 (Kd.int .i64) a6 a5 a3] [] _ := ⟨_, _, hS.re [4] [] rfl sub_self⟩
        refine ⟨hC, ?_⟩
        refine ED.at' #[true, true, true, false, true, true, true, true, true, true, true, true, true, true, true, true, false, false] (by kernel_rfl) ?_
        refine ED.one 3 2 #[true, true, true, true, true, true, true, true, true, true, true, true, true, true, true, true, false, false] (by kernel_rfl) (by kernel_rfl) (by kernel_rfl) (EO.Y (YO.loadBox hS 2 rfl 89 0 1 (.slice (some a1) a4.length a2) 55 (by kernel_rfl) (by kernel_rfl) (by kernel_rfl) (by kernel_rfl)) ?_)
        have hC : Core B [Ass.own 3 (Kd.int .i64) a6 a5 a3] [] _ := ⟨_, _, hS.re [4] [] rfl sub_self⟩
        refine ⟨hC, ?_⟩
        refine ED.Y hN hF hC 16 1 #[true, true, true, true, true, true, true, true, true, true, true, true, true, true, true, true, true, false] (by kernel_rfl) (by kernel_rfl) rfl (fun _ _ _ hS => YO.idx 89 1 a1 a4.length a2 .i64 a0 68 (by kernel_rfl) (by kernel_rfl) (by kernel_rfl) (by kernel_rfl) b4 c0) ?_
        refine ED.one 17 0 #[true, true, true, true, true, true, true, true, true, true, true, true, true, true, true, true, true, true] (by kernel_rfl) (by kernel_rfl) (by kernel_rfl) (EO.closeEl hS 1 2 a1 a0 rfl rfl b4 b0 b5 (Ass.own 96 kS96 (some ⟨b9, 0, none⟩) 1 a8 :: Ass.box 91 a7 [.slice (some a1) a4.length a2, .slice a6 a3.length a5] :: Ass.deep 94 96 kS96 (some a1) a2 b0 :: Ass.own 3 (Kd.int .i64) a6 a5 a3 :: os) 94 (by kernel_rfl) (by kernel_rfl) (by kernel_rfl) (by kernel_rfl) rfl ?_)
        intro w hS
        have hS : St B w (Ass.own 96 kS96 (some ⟨b9, 0, none⟩) 1 a8 :: Ass.box 91 a7 [.slice (some a1) b0.length a2, .slice a6 a3.length a5] :: Ass.deep 94 96 kS96 (some a1) a2 b0 :: Ass.own 3 (Kd.int .i64) a6 a5 a3 :: os) (rs) := by simpa only [b5, List.length_set] using hS
        have hC : Core B [Ass.own 3 (Kd.int .i64) a6 a5 a3] [] _ := ⟨_, _, hS.re [3] [] rfl sub_self⟩
        refine ⟨hC, ?_⟩
        refine ED.keep [8, 9, 54, 55, 56, 59, 60, 61, 62, 65, 66, 68] [(8, .int .i32 b1), (9, .bool (b3)), (54, .pointer (some ⟨a7, 0, none⟩)), (55, .slice (some a1) a4.length a2), (56, .int .i64 a0), (59, .pointer (some ⟨a7, 0, none⟩)), (60, .slice (some a1) a4.length a2), (61, .int .i64 a0), (62, .pointer (some ((a1.add (a0.toNat * 1)).add 0))), (65, .agg #[.int .i64 a9, .int .i64 0, .int .i32 0, .int .i64 0]), (66, .slice (some ⟨b9, 0, none⟩) a8.length 1), (68, .pointer (some ((a1.add (a0.toNat * 1)).add 0)))] (by kernel_rfl) ?_
        refine ED.as' [(8, .int .i32 b1), (9, .bool (b3)), (54, .pointer (some ⟨a7, 0, none⟩)), (55, .slice (some a1) b0.length a2), (56, .int .i64 a0), (59, .pointer (some ⟨a7, 0, none⟩)), (60, .slice (some a1) b0.length a2), (61, .int .i64 a0), (62, .pointer (some ((a1.add (a0.toNat * 1)).add 0))), (65, .agg #[.int .i64 a9, .int .i64 0, .int .i32 0, .int .i64 0]), (66, .slice (some ⟨b9, 0, none⟩) a8.length 1), (68, .pointer (some ((a1.add (a0.toNat * 1)).add 0)))] (by simp only [b5, List.length_set]) ?_
        refine ED.done (by kernel_rfl) ?_
        refine EQ.to ?_
        refine EQ.keep [8, 9] [(8, .int .i32 b1), (9, .bool (b3))] (by kernel_rfl) ?_
        exact fun a ha => ⟨(some ⟨b9, 0, none⟩), 1, ha, (hS.re [3, 3, 3, 3] [] rfl (sub_self))⟩
   ·obtain ⟨e8, g6, ha, hS⟩ := hI
    refine EQ.at ?_ a ha
    clear ha a
    refine EQ.code ?_
    refine EW.seq (x := Cd13.r.r.r.r.l) (y := Cd13.r.r.r.r.r) (by kernel_rfl) ?_
    refine EW.region (id := 5) (ops := Cd13.r.r.r.r.l.ops) (by kernel_rfl) ?_
    refine EL.quick 4 [6, 7] [(6, .int .i32 b1), (7, .bool (b3))] (by kernel_rfl) ?_
    refine EL.done (by kernel_rfl) ?_
    refine EQ.code ?_
    refine EW.ret (by kernel_rfl) ?_
    simp only [Option.some.injEq, Prod.mk.injEq] at H
    obtain ⟨rfl, rfl, rfl⟩ := H
    exact EQ.leave (.tuple #[.int .i32 b1, .bool (b3)]) (by kernel_rfl) ⟨_, rfl, (some a1), a2, rfl, (hS.re [3, 3, 3] [3] rfl (sub_self))⟩

/-! ### confidant/ident.Label$1: function 77 -/
def ident_Label_1.f (K : Nat) (a0 : Int) : Option Int := some (IntKind.i64.wrap (Int.tdiv a0 65536))
set_option maxRecDepth 100000 in
theorem ident_Label_1.calls {K : Nat} {a0 : Int} {a1 : Int} {B w : World} {os : List Ass} {rs : List Ro} (H : ident_Label_1.f K a0 = some a1) (hS : St B w (os) (rs)) :
  Calls Try.prog 77 [.int .i64 a0].toArray w (fun en w' => ∃ v, en = .returned v ∧ v = .int .i64 a1 ∧ St B w' (os) (rs)) := by
 unfold ident_Label_1.f at H
 refine calls_of_EW (args := [.int .i64 a0]) (c := Cd77) 5 Try.func77 (by kernel_rfl) (by kernel_rfl) (by kernel_rfl) ?_
 refine EW.seq (x := Cd77.l) (y := Cd77.r) (by kernel_rfl) ?_
 refine EW.region (id := 0) (ops := Cd77.l.ops) (by kernel_rfl) ?_
 refine EL.quick 1 [0] [(0, .int .i64 a0)] (by kernel_rfl) ?_
 refine EL.done (by kernel_rfl) ?_
 refine EQ.code ?_
 refine EW.seq (x := Cd77.r.l) (y := Cd77.r.r) (by kernel_rfl) ?_
 refine EW.region (id := 1) (ops := Cd77.r.l.ops) (by kernel_rfl) ?_
 refine EL.quick 3 [2] [(2, .int .i64 (IntKind.i64.wrap (Int.tdiv a0 65536)))] (by kernel_rfl) ?_
 refine EL.done (by kernel_rfl) ?_
 refine EQ.code ?_
 refine EW.ret (by kernel_rfl) ?_
 obtain rfl := Option.some.inj H
 exact EQ.leave (.int .i64 (IntKind.i64.wrap (Int.tdiv a0 65536))) (by kernel_rfl) ⟨_, rfl, rfl, (hS.re [] [] rfl (sub_self))⟩

/-! ### confidant/ident.Label: function 73 -/
def ident_Label.f (K : Nat) (a0 : Int) : Option Int := lt (fun (a1 : Int) => (some a1)) fun a3 => (if a0 < 0 then (a3 (-1)) else (b1 (ident_Label_1.f K (IntKind.i64.wrap a0)) fun (a2 : Int) => (a3 a2)))
set_option maxRecDepth 100000 in
theorem ident_Label.calls {K : Nat} {a0 : Int} {a5 : Int} {B w : World} {os : List Ass} {rs : List Ro} (H : ident_Label.f K a0 = some a5) (hS : St B w (os) (rs)) :
  Calls Try.prog 73 [.int .i32 a0].toArray w (fun en w' => ∃ v, en = .returned v ∧ v = .int .i64 a5 ∧ St B w' (os) (rs)) := by
 unfold ident_Label.f at H
 refine calls_of_EW (args := [.int .i32 a0]) (c := Cd73) 5 Try.func73 (by kernel_rfl) (by kernel_rfl) (by kernel_rfl) ?_
 refine EW.seq (x := Cd73.l) (y := Cd73.r) (by kernel_rfl) ?_
 refine EW.region (id := 0) (ops := Cd73.l.ops) (by kernel_rfl) ?_
 refine EL.quick 1 [0] [(0, .int .i32 a0)] (by kernel_rfl) ?_
 refine EL.done (by kernel_rfl) ?_
 refine EQ.code ?_
 refine EW.seq (x := Cd73.r.l) (y := Cd73.r.r) (by kernel_rfl) ?_
 refine EW.region (id := 1) (ops := Cd73.r.l.ops) (by kernel_rfl) ?_
 refine EL.quick 1 [3] [(3, .int .i32 a0)] (by kernel_rfl) ?_
 obtain ⟨a3, a7, H⟩ := lt_out H
 refine EL.of (EO.callD 76 [.int .i32 a0, .func (.func 77) #[] #[]] (fun v w => ∃ a1 : Int, v = .int .i64 a1 ∧ St B w (os) (rs) ∧ a3 a1 = some a5) 4 (by kernel_rfl) (by kernel_rfl) (by kernel_rfl) ?_ ?_)
 ·refine calls_of_EW (args := [.int .i32 a0, .func (.func 77) #[] #[]]) (c := Cd76) 11 Try.func76 (by kernel_rfl) (by kernel_rfl) (by kernel_rfl) ?_
  refine EW.seq (x := Cd76.l) (y := Cd76.r) (by kernel_rfl) ?_
  refine EW.region (id := 0) (ops := Cd76.l.ops) (by kernel_rfl) ?_
  refine EL.quick 1 [0, 1] [(0, .int .i32 a0), (1, .func (.func 77) #[] #[])] (by kernel_rfl) ?_
  refine EL.done (by kernel_rfl) ?_
  refine EQ.code ?_
  refine EW.seq (x := Cd76.r.l) (y := Cd76.r.r) (by kernel_rfl) ?_
  refine EW.seq (x := Cd76.r.l.l) (y := Cd76.r.l.r) (by kernel_rfl) ?_
  refine EW.region (id := 1) (ops := Cd76.r.l.l.ops) (by kernel_rfl) ?_
  refine EL.quick 2 [0, 1, 6] [(0, .int .i32 a0), (1, .func (.func 77) #[] #[]), (6, .bool (decide (a0 < 0)))] (by kernel_rfl) ?_
  refine EL.done (by kernel_rfl) ?_
  refine EQ.code ?_
  refine EW.condP (o := (.tmp 6)) (x := Cd76.r.l.r.l) (y := Cd76.r.l.r.r) (a0 < 0) (by kernel_rfl) (by kernel_rfl) (fun a4 => ?_) (fun a4 => ?_)
  ·rw [if_pos a4] at H
   refine EW.seq (x := Cd76.r.l.r.l.l) (y := Cd76.r.l.r.l.r) (by kernel_rfl) ?_
   refine EW.region (id := 2) (ops := Cd76.r.l.r.l.l.ops) (by kernel_rfl) ?_
   refine EL.quick 1 [4] [(4, .int .i64 (-1))] (by kernel_rfl) ?_
   refine EL.done (by kernel_rfl) ?_
   refine EQ.code ?_
   refine EW.ret (by kernel_rfl) ?_
   refine EQ.ret ?_
   exact EQ.leave (.int .i64 (-1)) (by kernel_rfl) ⟨_, rfl, (-1), rfl, (hS.re [] [] rfl (sub_self)), H⟩
  ·rw [if_neg a4] at H
   refine EW.skip (by kernel_rfl) ?_
   refine EQ.code ?_
   refine EW.seq (x := Cd76.r.r.l) (y := Cd76.r.r.r) (by kernel_rfl) ?_
   refine EW.region (id := 3) (ops := Cd76.r.r.l.ops) (by kernel_rfl) ?_
   refine EL.quick 3 [7, 9] [(7, .func (.func 77) #[] #[]), (9, .int .i64 (IntKind.i64.wrap a0))] (by kernel_rfl) ?_
   obtain ⟨a2, a6, H⟩ := b1_out H
   refine EL.of (EO.callD 77 [.int .i64 (IntKind.i64.wrap a0)] _ 10 (by kernel_rfl) (by kernel_rfl) (by kernel_rfl) (ident_Label_1.calls a6 hS) ?_)
   rintro v w ⟨rfl, hS⟩
   refine EL.quick 1 [4] [(4, .int .i64 a2)] (by kernel_rfl) ?_
   refine EL.done (by kernel_rfl) ?_
   refine EQ.code ?_
   refine EW.ret (by kernel_rfl) ?_
   exact EQ.leave (.int .i64 a2) (by kernel_rfl) ⟨_, rfl, a2, rfl, (hS.re [] [] rfl (sub_self)), H⟩
 ·rintro v w ⟨a1, rfl, hS, H⟩
  rw [a7] at H
  (try dsimp only at H)
  refine EL.quick 1 [2] [(2, .int .i64 a1)] (by kernel_rfl) ?_
  refine EL.done (by kernel_rfl) ?_
  refine EQ.code ?_
  refine EW.ret (by kernel_rfl) ?_
  obtain rfl := Option.some.inj H
  exact EQ.leave (.int .i64 a1) (by kernel_rfl) ⟨_, rfl, rfl, (hS.re [] [] rfl (sub_self))⟩

/-! ### confidant/ident.Number$1: function 78 -/
def ident_Number_1.f (K : Nat) (a0 : Int) : Option Int := some (Int.tmod a0 65536)
set_option maxRecDepth 100000 in
theorem ident_Number_1.calls {K : Nat} {a0 : Int} {a1 : Int} {B w : World} {os : List Ass} {rs : List Ro} (H : ident_Number_1.f K a0 = some a1) (hS : St B w (os) (rs)) :
  Calls Try.prog 78 [.int .i64 a0].toArray w (fun en w' => ∃ v, en = .returned v ∧ v = .int .i64 a1 ∧ St B w' (os) (rs)) := by
 unfold ident_Number_1.f at H
 refine calls_of_EW (args := [.int .i64 a0]) (c := Cd78) 5 Try.func78 (by kernel_rfl) (by kernel_rfl) (by kernel_rfl) ?_
 refine EW.seq (x := Cd78.l) (y := Cd78.r) (by kernel_rfl) ?_
 refine EW.region (id := 0) (ops := Cd78.l.ops) (by kernel_rfl) ?_
 refine EL.quick 1 [0] [(0, .int .i64 a0)] (by kernel_rfl) ?_
 refine EL.done (by kernel_rfl) ?_
 refine EQ.code ?_
 refine EW.seq (x := Cd78.r.l) (y := Cd78.r.r) (by kernel_rfl) ?_
 refine EW.region (id := 1) (ops := Cd78.r.l.ops) (by kernel_rfl) ?_
 refine EL.quick 3 [2] [(2, .int .i64 (Int.tmod a0 65536))] (by kernel_rfl) ?_
 refine EL.done (by kernel_rfl) ?_
 refine EQ.code ?_
 refine EW.ret (by kernel_rfl) ?_
 obtain rfl := Option.some.inj H
 exact EQ.leave (.int .i64 (Int.tmod a0 65536)) (by kernel_rfl) ⟨_, rfl, rfl, (hS.re [] [] rfl (sub_self))⟩

/-! ### confidant/ident.Number: function 74 -/
def ident_Number.f (K : Nat) (a0 : Int) : Option Int := lt (fun (a1 : Int) => (some a1)) fun a3 => (if a0 < 0 then (a3 (-1)) else (b1 (ident_Number_1.f K (IntKind.i64.wrap a0)) fun (a2 : Int) => (a3 a2)))
set_option maxRecDepth 100000 in
theorem ident_Number.calls {K : Nat} {a0 : Int} {a5 : Int} {B w : World} {os : List Ass} {rs : List Ro} (H : ident_Number.f K a0 = some a5) (hS : St B w (os) (rs)) :
  Calls Try.prog 74 [.int .i32 a0].toArray w (fun en w' => ∃ v, en = .returned v ∧ v = .int .i64 a5 ∧ St B w' (os) (rs)) := by
 unfold ident_Number.f at H
 refine calls_of_EW (args := [.int .i32 a0]) (c := Cd74) 5 Try.func74 (by kernel_rfl) (by kernel_rfl) (by kernel_rfl) ?_
 refine EW.seq (x := Cd74.l) (y := Cd74.r) (by kernel_rfl) ?_
 refine EW.region (id := 0) (ops := Cd74.l.ops) (by kernel_rfl) ?_
 refine EL.quick 1 [0] [(0, .int .i32 a0)] (by kernel_rfl) ?_
 refine EL.done (by kernel_rfl) ?_
 refine EQ.code ?_
 refine EW.seq (x := Cd74.r.l) (y := Cd74.r.r) (by kernel_rfl) ?_
 refine EW.region (id := 1) (ops := Cd74.r.l.ops) (by kernel_rfl) ?_
 refine EL.quick 1 [3] [(3, .int .i32 a0)] (by kernel_rfl) ?_
 obtain ⟨a3, a7, H⟩ := lt_out H
 refine EL.of (EO.callD 76 [.int .i32 a0, .func (.func 78) #[] #[]] (fun v w => ∃ a1 : Int, v = .int .i64 a1 ∧ St B w (os) (rs) ∧ a3 a1 = some a5) 4 (by kernel_rfl) (by kernel_rfl) (by kernel_rfl) ?_ ?_)
 ·refine calls_of_EW (args := [.int .i32 a0, .func (.func 78) #[] #[]]) (c := Cd76) 11 Try.func76 (by kernel_rfl) (by kernel_rfl) (by kernel_rfl) ?_
  refine EW.seq (x := Cd76.l) (y := Cd76.r) (by kernel_rfl) ?_
  refine EW.region (id := 0) (ops := Cd76.l.ops) (by kernel_rfl) ?_
  refine EL.quick 1 [0, 1] [(0, .int .i32 a0), (1, .func (.func 78) #[] #[])] (by kernel_rfl) ?_
  refine EL.done (by kernel_rfl) ?_
  refine EQ.code ?_
  refine EW.seq (x := Cd76.r.l) (y := Cd76.r.r) (by kernel_rfl) ?_
  refine EW.seq (x := Cd76.r.l.l) (y := Cd76.r.l.r) (by kernel_rfl) ?_
  refine EW.region (id := 1) (ops := Cd76.r.l.l.ops) (by kernel_rfl) ?_
  refine EL.quick 2 [0, 1, 6] [(0, .int .i32 a0), (1, .func (.func 78) #[] #[]), (6, .bool (decide (a0 < 0)))] (by kernel_rfl) ?_
  refine EL.done (by kernel_rfl) ?_
  refine EQ.code ?_
  refine EW.condP (o := (.tmp 6)) (x := Cd76.r.l.r.l) (y := Cd76.r.l.r.r) (a0 < 0) (by kernel_rfl) (by kernel_rfl) (fun a4 => ?_) (fun a4 => ?_)
  ·rw [if_pos a4] at H
   refine EW.seq (x := Cd76.r.l.r.l.l) (y := Cd76.r.l.r.l.r) (by kernel_rfl) ?_
   refine EW.region (id := 2) (ops := Cd76.r.l.r.l.l.ops) (by kernel_rfl) ?_
   refine EL.quick 1 [4] [(4, .int .i64 (-1))] (by kernel_rfl) ?_
   refine EL.done (by kernel_rfl) ?_
   refine EQ.code ?_
   refine EW.ret (by kernel_rfl) ?_
   refine EQ.ret ?_
   exact EQ.leave (.int .i64 (-1)) (by kernel_rfl) ⟨_, rfl, (-1), rfl, (hS.re [] [] rfl (sub_self)), H⟩
  ·rw [if_neg a4] at H
   refine EW.skip (by kernel_rfl) ?_
   refine EQ.code ?_
   refine EW.seq (x := Cd76.r.r.l) (y := Cd76.r.r.r) (by kernel_rfl) ?_
   refine EW.region (id := 3) (ops := Cd76.r.r.l.ops) (by kernel_rfl) ?_
   refine EL.quick 3 [7, 9] [(7, .func (.func 78) #[] #[]), (9, .int .i64 (IntKind.i64.wrap a0))] (by kernel_rfl) ?_
   obtain ⟨a2, a6, H⟩ := b1_out H
   refine EL.of (EO.callD 78 [.int .i64 (IntKind.i64.wrap a0)] _ 10 (by kernel_rfl) (by kernel_rfl) (by kernel_rfl) (ident_Number_1.calls a6 hS) ?_)
   rintro v w ⟨rfl, hS⟩
   refine EL.quick 1 [4] [(4, .int .i64 a2)] (by kernel_rfl) ?_
   refine EL.done (by kernel_rfl) ?_
   refine EQ.code ?_
   refine EW.ret (by kernel_rfl) ?_
   exact EQ.leave (.int .i64 a2) (by kernel_rfl) ⟨_, rfl, a2, rfl, (hS.re [] [] rfl (sub_self)), H⟩
 ·rintro v w ⟨a1, rfl, hS, H⟩
  rw [a7] at H
  (try dsimp only at H)
  refine EL.quick 1 [2] [(2, .int .i64 a1)] (by kernel_rfl) ?_
  refine EL.done (by kernel_rfl) ?_
  refine EQ.code ?_
  refine EW.ret (by kernel_rfl) ?_
  obtain rfl := Option.some.inj H
  exact EQ.leave (.int .i64 a1) (by kernel_rfl) ⟨_, rfl, rfl, (hS.re [] [] rfl (sub_self))⟩

/-! ### (*confidant/future.Futures).Keep: function 14 -/
def future_Futures_Keep.f (K : Nat) (a2 : List (List S96)) (a6 : List Int) (b2 : Int) (a5 : Int) : Option (List (List S96) × Bool) := lt (fun (c3 : List (List S96)) (b9 : Bool) => (some (c3, b9))) fun c5 => (b1 (ident_Label.f K b2) fun (a1 : Int) => (b1 (ident_Number.f K b2) fun (a0 : Int) => (lt (fun (c4 : Bool) => (if c4 = true then (c5 a2 false) else (if 0 ≤ a1 then (if a1 < (a2.length : Int) then (if 0 ≤ a0 then (if a0 < ((a2.getD a1.toNat []).length : Int) then (if (((a2.getD a1.toNat []).getD a0.toNat zS96).f1) = 0 then (lt ((a2.getD a1.toNat []).set a0.toNat (⟨((a2.getD a1.toNat []).getD a0.toNat zS96).f0, 1, ((a2.getD a1.toNat []).getD a0.toNat zS96).f2, ((a2.getD a1.toNat []).getD a0.toNat zS96).f3⟩ : S96)) fun b4 => (lt (b4.set a0.toNat (⟨(b4.getD a0.toNat zS96).f0, (b4.getD a0.toNat zS96).f1, a5, (b4.getD a0.toNat zS96).f3⟩ : S96)) fun b5 => (lt (b5.set a0.toNat (⟨(b5.getD a0.toNat zS96).f0, (b5.getD a0.toNat zS96).f1, (b5.getD a0.toNat zS96).f2, 0⟩ : S96)) fun b8 => (c5 (a2.set a1.toNat b8) true)))) else (c5 a2 false)) else none) else none) else none) else none))) fun c6 => (if a1 < 0 then (c6 true) else (if a1 ≥ (a2.length : Int) then (c6 true) else (if 0 ≤ a1 then (if a1 < (a2.length : Int) then (c6 (decide (a0 ≥ ((a2.getD a1.toNat []).length : Int)))) else none) else none))))))
set_option maxRecDepth 100000 in
theorem future_Futures_Keep.calls {K : Nat} {a2 : List (List S96)} {a6 : List Int} {b2 : Int} {a5 : Int} {a3 : Nat} {b7 : Option Addr} {a4 : Nat} {a7 : Option Addr} {a8 : Nat} {c7 : List (List S96)} {d3 : Bool} {B w : World} {os : List Ass} {rs : List Ro} (H : future_Futures_Keep.f K a2 a6 b2 a5 = some (c7, d3)) (hS : St B w (Ass.box 91 a3 [.slice b7 a2.length a4, .slice a7 a6.length a8] :: Ass.deep 94 96 kS96 b7 a4 a2 :: Ass.own 3 (Kd.int .i64) a7 a8 a6 :: os) (rs)) :
  Calls Try.prog 14 [.pointer (some ⟨a3, 0, none⟩), .int .i32 b2, .int .i32 a5].toArray w (fun en w' => ∃ v, en = .returned v ∧ ∃ e2 : Option Addr, ∃ e4 : Nat, v = .bool (d3) ∧ St B w' (Ass.box 91 a3 [.slice e2 c7.length e4, .slice a7 a6.length a8] :: Ass.deep 94 96 kS96 e2 e4 c7 :: Ass.own 3 (Kd.int .i64) a7 a8 a6 :: os) (rs)) := by
 unfold future_Futures_Keep.f at H
 refine calls_of_EW (args := [.pointer (some ⟨a3, 0, none⟩), .int .i32 b2, .int .i32 a5]) (c := Cd14) 13 Try.func14 (by kernel_rfl) (by kernel_rfl) (by kernel_rfl) ?_
 refine EW.seq (x := Cd14.l) (y := Cd14.r) (by kernel_rfl) ?_
 refine EW.region (id := 0) (ops := Cd14.l.ops) (by kernel_rfl) ?_
 refine EL.quick 1 [0, 1, 2] [(0, .pointer (some ⟨a3, 0, none⟩)), (1, .int .i32 b2), (2, .int .i32 a5)] (by kernel_rfl) ?_
 refine EL.done (by kernel_rfl) ?_
 refine EQ.code ?_
 refine EW.seq (x := Cd14.r.l) (y := Cd14.r.r) (by kernel_rfl) ?_
 refine EW.region (id := 1) (ops := Cd14.r.l.ops) (by kernel_rfl) ?_
 refine EL.quick 5 [7, 8, 11] [(7, .pointer (some ⟨a3, 0, none⟩)), (8, .int .i32 b2), (11, .func (.func 43) #[.agg #[.int .i64 1, .int .i32 a5, .int .i64 0]] #[])] (by kernel_rfl) ?_
 obtain ⟨c5, e9, H⟩ := lt_out H
 refine EL.of (EO.callD 42 [.pointer (some ⟨a3, 0, none⟩), .int .i32 b2, .func (.func 43) #[.agg #[.int .i64 1, .int .i32 a5, .int .i64 0]] #[]] (fun v w => ∃ c3 : List (List S96), ∃ b9 : Bool, ∃ c8 : Option Addr, ∃ c9 : Nat, v = .bool (b9) ∧ St B w (Ass.box 91 a3 [.slice c8 c3.length c9, .slice a7 a6.length a8] :: Ass.deep 94 96 kS96 c8 c9 c3 :: Ass.own 3 (Kd.int .i64) a7 a8 a6 :: os) (rs) ∧ c5 c3 b9 = some (c7, d3)) 12 (by kernel_rfl) (by kernel_rfl) (by kernel_rfl) ?_ ?_)
 ·refine calls_of_EW (args := [.pointer (some ⟨a3, 0, none⟩), .int .i32 b2, .func (.func 43) #[.agg #[.int .i64 1, .int .i32 a5, .int .i64 0]] #[]]) (c := Cd42) 23 Try.func42 (by kernel_rfl) (by kernel_rfl) (by kernel_rfl) ?_
  refine EW.seq (x := Cd42.l) (y := Cd42.r) (by kernel_rfl) ?_
  refine EW.region (id := 0) (ops := Cd42.l.ops) (by kernel_rfl) ?_
  refine EL.quick 1 [0, 1, 2] [(0, .pointer (some ⟨a3, 0, none⟩)), (1, .int .i32 b2), (2, .func (.func 43) #[.agg #[.int .i64 1, .int .i32 a5, .int .i64 0]] #[])] (by kernel_rfl) ?_
  refine EL.done (by kernel_rfl) ?_
  refine EQ.code ?_
  refine EW.seq (x := Cd42.r.l) (y := Cd42.r.r) (by kernel_rfl) ?_
  refine EW.region (id := 1) (ops := Cd42.r.l.ops) (by kernel_rfl) ?_
  refine EL.quick 2 [2, 8, 9] [(2, .func (.func 43) #[.agg #[.int .i64 1, .int .i32 a5, .int .i64 0]] #[]), (8, .pointer (some ⟨a3, 0, none⟩)), (9, .int .i32 b2)] (by kernel_rfl) ?_
  refine EL.inline 64 [.pointer (some ⟨a3, 0, none⟩), .int .i32 b2] 10 (by kernel_rfl) (by kernel_rfl) (by kernel_rfl) ?_
  refine calls_of_EW (args := [.pointer (some ⟨a3, 0, none⟩), .int .i32 b2]) (c := Cd64) 43 Try.func64 (by kernel_rfl) (by kernel_rfl) (by kernel_rfl) ?_
  refine EW.seq (x := Cd64.l) (y := Cd64.r) (by kernel_rfl) ?_
  refine EW.region (id := 0) (ops := Cd64.l.ops) (by kernel_rfl) ?_
  refine EL.quick 1 [0, 1] [(0, .pointer (some ⟨a3, 0, none⟩)), (1, .int .i32 b2)] (by kernel_rfl) ?_
  refine EL.done (by kernel_rfl) ?_
  refine EQ.code ?_
  refine EW.seq (x := Cd64.r.l) (y := Cd64.r.r) (by kernel_rfl) ?_
  refine EW.region (id := 1) (ops := Cd64.r.l.ops) (by kernel_rfl) ?_
  refine EL.quick 1 [0, 1, 7] [(0, .pointer (some ⟨a3, 0, none⟩)), (1, .int .i32 b2), (7, .int .i32 b2)] (by kernel_rfl) ?_
  obtain ⟨a1, e7, H⟩ := b1_out H
  refine EL.of (EO.callD 73 [.int .i32 b2] _ 8 (by kernel_rfl) (by kernel_rfl) (by kernel_rfl) (ident_Label.calls e7 hS) ?_)
  rintro v w ⟨rfl, hS⟩
  refine EL.quick 1 [0, 8, 9] [(0, .pointer (some ⟨a3, 0, none⟩)), (8, .int .i64 a1), (9, .int .i32 b2)] (by kernel_rfl) ?_
  obtain ⟨a0, e8, H⟩ := b1_out H
  refine EL.of (EO.callD 74 [.int .i32 b2] _ 10 (by kernel_rfl) (by kernel_rfl) (by kernel_rfl) (ident_Number.calls e8 hS) ?_)
  rintro v w ⟨rfl, hS⟩
  refine EL.quick 2 [0, 5, 6] [(0, .pointer (some ⟨a3, 0, none⟩)), (5, .int .i64 a1), (6, .int .i64 a0)] (by kernel_rfl) ?_
  refine EL.done (by kernel_rfl) ?_
  refine EQ.code ?_
  refine EW.seq (x := Cd64.r.r.l) (y := Cd64.r.r.r) (by kernel_rfl) ?_
  obtain ⟨c6, f4, H⟩ := lt_out H
  refine EW.cut (x := Cd64.r.r.l.l) (y := Cd64.r.r.l.r) (fun a w => ∃ c4 : Bool, Sat 43 [(0, .pointer (some ⟨a3, 0, none⟩)), (5, .int .i64 a1), (6, .int .i64 a0), (33, .bool (c4))] a ∧ St B w (Ass.box 91 a3 [.slice b7 a2.length a4, .slice a7 a6.length a8] :: Ass.deep 94 96 kS96 b7 a4 a2 :: Ass.own 3 (Kd.int .i64) a7 a8 a6 :: os) (rs) ∧ c6 c4 = some (c7, d3)) (by kernel_rfl) ?_ (fun a w hI => ?_)
  ·refine EW.region (id := 2) (ops := Cd64.r.r.l.l.ops) (by kernel_rfl) ?_
   refine EL.quick 3 [0, 5, 6, 13] [(0, .pointer (some ⟨a3, 0, none⟩)), (5, .int .i64 a1), (6, .int .i64 a0), (13, .bool (decide (a1 < 0)))] (by kernel_rfl) ?_
   by_cases d0 : a1 < 0
   ·rw [if_pos d0] at H
    refine EL.keep [0, 5, 6, 13] [(0, .pointer (some ⟨a3, 0, none⟩)), (5, .int .i64 a1), (6, .int .i64 a0), (13, .bool (decide (a1 < 0)))] (by kernel_rfl) ?_
    refine EL.as' [(0, .pointer (some ⟨a3, 0, none⟩)), (5, .int .i64 a1), (6, .int .i64 a0), (13, .bool (true))] (by simp only [dec_t d0, Bool.not_true, Bool.not_false]) ?_
    refine EL.quick 20 [0, 5, 6, 33] [(0, .pointer (some ⟨a3, 0, none⟩)), (5, .int .i64 a1), (6, .int .i64 a0), (33, .bool (true))] (by kernel_rfl) ?_
    refine EL.done (by kernel_rfl) ?_
    refine EQ.to ?_
    refine EQ.keep [0, 5, 6, 33] [(0, .pointer (some ⟨a3, 0, none⟩)), (5, .int .i64 a1), (6, .int .i64 a0), (33, .bool (true))] (by kernel_rfl) ?_
    exact fun a ha => ⟨true, ha, (hS.re [2, 2, 2] [] rfl (sub_self)), H⟩
   ·rw [if_neg d0] at H
    refine EL.keep [0, 5, 6, 13] [(0, .pointer (some ⟨a3, 0, none⟩)), (5, .int .i64 a1), (6, .int .i64 a0), (13, .bool (decide (a1 < 0)))] (by kernel_rfl) ?_
    refine EL.as' [(0, .pointer (some ⟨a3, 0, none⟩)), (5, .int .i64 a1), (6, .int .i64 a0), (13, .bool (false))] (by simp only [dec_f d0, Bool.not_true, Bool.not_false]) ?_
    refine EL.quick 4 [0, 5, 6, 13, 14, 17] [(0, .pointer (some ⟨a3, 0, none⟩)), (5, .int .i64 a1), (6, .int .i64 a0), (13, .bool (false)), (14, .int .i64 a1), (17, .pointer (some ⟨a3, 0, none⟩))] (by kernel_rfl) ?_
    refine EL.of (EO.Y (YO.loadBox hS 0 rfl 89 0 1 (.slice b7 a2.length a4) 18 (by kernel_rfl) (by kernel_rfl) (by kernel_rfl) (by kernel_rfl)) ?_)
    refine EL.quick 4 [0, 5, 6, 22] [(0, .pointer (some ⟨a3, 0, none⟩)), (5, .int .i64 a1), (6, .int .i64 a0), (22, .bool (decide (a1 ≥ (a2.length : Int))))] (by kernel_rfl) ?_
    by_cases d1 : a1 ≥ (a2.length : Int)
    ·rw [if_pos d1] at H
     refine EL.keep [0, 5, 6, 22] [(0, .pointer (some ⟨a3, 0, none⟩)), (5, .int .i64 a1), (6, .int .i64 a0), (22, .bool (decide (a1 ≥ (a2.length : Int))))] (by kernel_rfl) ?_
     refine EL.as' [(0, .pointer (some ⟨a3, 0, none⟩)), (5, .int .i64 a1), (6, .int .i64 a0), (22, .bool (true))] (by simp only [dec_t d1, Bool.not_true, Bool.not_false]) ?_
     refine EL.quick 11 [0, 5, 6, 33] [(0, .pointer (some ⟨a3, 0, none⟩)), (5, .int .i64 a1), (6, .int .i64 a0), (33, .bool (true))] (by kernel_rfl) ?_
     refine EL.done (by kernel_rfl) ?_
     refine EQ.to ?_
     refine EQ.keep [0, 5, 6, 33] [(0, .pointer (some ⟨a3, 0, none⟩)), (5, .int .i64 a1), (6, .int .i64 a0), (33, .bool (true))] (by kernel_rfl) ?_
     exact fun a ha => ⟨true, ha, (hS.re [2, 2, 2] [] rfl (sub_self)), H⟩
    ·rw [if_neg d1] at H
     refine EL.keep [0, 5, 6, 22] [(0, .pointer (some ⟨a3, 0, none⟩)), (5, .int .i64 a1), (6, .int .i64 a0), (22, .bool (decide (a1 ≥ (a2.length : Int))))] (by kernel_rfl) ?_
     refine EL.as' [(0, .pointer (some ⟨a3, 0, none⟩)), (5, .int .i64 a1), (6, .int .i64 a0), (22, .bool (false))] (by simp only [dec_f d1, Bool.not_true, Bool.not_false]) ?_
     refine EL.quick 4 [0, 5, 6, 22, 23, 26] [(0, .pointer (some ⟨a3, 0, none⟩)), (5, .int .i64 a1), (6, .int .i64 a0), (22, .bool (false)), (23, .int .i64 a0), (26, .pointer (some ⟨a3, 0, none⟩))] (by kernel_rfl) ?_
     refine EL.of (EO.Y (YO.loadBox hS 0 rfl 89 0 1 (.slice b7 a2.length a4) 27 (by kernel_rfl) (by kernel_rfl) (by kernel_rfl) (by kernel_rfl)) ?_)
     refine EL.quick 1 [0, 5, 6, 22, 23, 27, 28] [(0, .pointer (some ⟨a3, 0, none⟩)), (5, .int .i64 a1), (6, .int .i64 a0), (22, .bool (false)), (23, .int .i64 a0), (27, .slice b7 a2.length a4), (28, .int .i64 a1)] (by kernel_rfl) ?_
     obtain ⟨d5, H⟩ := ite_in H
     obtain ⟨d6, H⟩ := ite_in H
     obtain ⟨c0, rfl⟩ := St.deep_some hS 1 rfl d5 d6
     refine EL.of (EO.Y (YO.idx 89 1 c0 a2.length a4 .i64 a1 29 (by kernel_rfl) (by kernel_rfl) (by kernel_rfl) (by kernel_rfl) d5 d6) ?_)
     refine EL.of (EO.openEl hS 1 c0 rfl a1 d5 d6 (fun e3 e5 => Ass.box 91 a3 [.slice (some c0) a2.length a4, .slice a7 a6.length a8] :: Ass.holed 94 96 kS96 (some c0) a4 a2 a1.toNat (e3, (a2.getD a1.toNat []).length, e5) :: Ass.own 3 (Kd.int .i64) a7 a8 a6 :: os) 94 30 (by kernel_rfl) (by kernel_rfl) (by kernel_rfl) (by kernel_rfl) (fun _ _ => rfl) ?_)
     intro e3 e5 hS
     refine EL.quick 3 [0, 5, 6, 33] [(0, .pointer (some ⟨a3, 0, none⟩)), (5, .int .i64 a1), (6, .int .i64 a0), (33, .bool (decide (a0 ≥ ((a2.getD a1.toNat []).length : Int))))] (by kernel_rfl) ?_
     refine EL.done (by kernel_rfl) ?_
     refine EQ.to ?_
     have hS := St.as (os' := Ass.box 91 a3 [.slice (some c0) a2.length a4, .slice a7 a6.length a8] :: Ass.deep 94 96 kS96 (some c0) a4 a2 :: Ass.own 3 (Kd.int .i64) a7 a8 a6 :: os) (St.close hS 0 1 rfl rfl rfl a2 (set_getD _ _)) rfl
     refine EQ.keep [0, 5, 6, 33] [(0, .pointer (some ⟨a3, 0, none⟩)), (5, .int .i64 a1), (6, .int .i64 a0), (33, .bool (decide (a0 ≥ ((a2.getD a1.toNat []).length : Int))))] (by kernel_rfl) ?_
     exact fun a ha => ⟨decide (a0 ≥ ((a2.getD a1.toNat []).length : Int)), ha, (hS.re [2, 2, 2] [] rfl (sub_self)), H⟩
  ·obtain ⟨c4, ha, hS, H⟩ := hI
   rw [f4] at H
   (try dsimp only at H)
   refine EW.at ?_ a ha
   clear ha a
   refine EW.condP' (o := (.tmp 33)) (x := Cd64.r.r.l.r.l) (y := Cd64.r.r.l.r.r) (c4) (by kernel_rfl) (by kernel_rfl) (fun d7 => ?_) (fun d7 => ?_)
   ·rw [if_pos d7] at H
    refine EW.seq (x := Cd64.r.r.l.r.l.l) (y := Cd64.r.r.l.r.l.r) (by kernel_rfl) ?_
    refine EW.region (id := 3) (ops := Cd64.r.r.l.r.l.l.ops) (by kernel_rfl) ?_
    refine EL.quick 1 [4] [(4, .pointer none)] (by kernel_rfl) ?_
    refine EL.done (by kernel_rfl) ?_
    refine EQ.code ?_
    refine EW.ret (by kernel_rfl) ?_
    refine EQ.ret ?_
    refine EQ.leave (.pointer none) (by kernel_rfl) ⟨_, rfl, ?_⟩
    refine EL.quick 1 [2, 7] [(2, .func (.func 43) #[.agg #[.int .i64 1, .int .i32 a5, .int .i64 0]] #[]), (7, .pointer none)] (by kernel_rfl) ?_
    refine EL.done (by kernel_rfl) ?_
    refine EQ.code ?_
    refine EW.seq (x := Cd42.r.r.l) (y := Cd42.r.r.r) (by kernel_rfl) ?_
    refine EW.seq (x := Cd42.r.r.l.l) (y := Cd42.r.r.l.r) (by kernel_rfl) ?_
    refine EW.region (id := 2) (ops := Cd42.r.r.l.l.ops) (by kernel_rfl) ?_
    refine EL.quick 9 [2, 7, 19] [(2, .func (.func 43) #[.agg #[.int .i64 1, .int .i32 a5, .int .i64 0]] #[]), (7, .pointer none), (19, .bool (true))] (by kernel_rfl) ?_
    refine EL.done (by kernel_rfl) ?_
    refine EQ.code ?_
    refine EW.condT (o := (.tmp 19)) (x := Cd42.r.r.l.r.l) (y := Cd42.r.r.l.r.r) (by kernel_rfl) (by kernel_rfl) ?_
    refine EW.seq (x := Cd42.r.r.l.r.l.l) (y := Cd42.r.r.l.r.l.r) (by kernel_rfl) ?_
    refine EW.region (id := 3) (ops := Cd42.r.r.l.r.l.l.ops) (by kernel_rfl) ?_
    refine EL.quick 1 [6] [(6, .bool (false))] (by kernel_rfl) ?_
    refine EL.done (by kernel_rfl) ?_
    refine EQ.code ?_
    refine EW.ret (by kernel_rfl) ?_
    refine EQ.ret ?_
    exact EQ.leave (.bool (false)) (by kernel_rfl) ⟨_, rfl, a2, false, b7, a4, rfl, (hS.re [2, 2, 2] [] rfl (sub_self)), H⟩
   ·rw [if_neg d7] at H
    refine EW.skip (by kernel_rfl) ?_
    refine EQ.code ?_
    refine EW.seq (x := Cd64.r.r.r.l) (y := Cd64.r.r.r.r) (by kernel_rfl) ?_
    refine EW.region (id := 4) (ops := Cd64.r.r.r.l.ops) (by kernel_rfl) ?_
    refine EL.quick 3 [5, 6, 36] [(5, .int .i64 a1), (6, .int .i64 a0), (36, .pointer (some ⟨a3, 0, none⟩))] (by kernel_rfl) ?_
    refine EL.of (EO.Y (YO.loadBox hS 0 rfl 89 0 1 (.slice b7 a2.length a4) 37 (by kernel_rfl) (by kernel_rfl) (by kernel_rfl) (by kernel_rfl)) ?_)
    refine EL.quick 1 [6, 37, 38] [(6, .int .i64 a0), (37, .slice b7 a2.length a4), (38, .int .i64 a1)] (by kernel_rfl) ?_
    obtain ⟨d8, H⟩ := ite_in H
    obtain ⟨d9, H⟩ := ite_in H
    obtain ⟨b0, rfl⟩ := St.deep_some hS 1 rfl d8 d9
    refine EL.of (EO.Y (YO.idx 89 1 b0 a2.length a4 .i64 a1 39 (by kernel_rfl) (by kernel_rfl) (by kernel_rfl) (by kernel_rfl) d8 d9) ?_)
    refine EL.of (EO.openEl hS 1 b0 rfl a1 d8 d9 (fun d4 b3 => Ass.box 91 a3 [.slice (some b0) a2.length a4, .slice a7 a6.length a8] :: Ass.holed 94 96 kS96 (some b0) a4 a2 a1.toNat (d4, (a2.getD a1.toNat []).length, b3) :: Ass.own 3 (Kd.int .i64) a7 a8 a6 :: os) 94 40 (by kernel_rfl) (by kernel_rfl) (by kernel_rfl) (by kernel_rfl) (fun _ _ => rfl) ?_)
    intro d4 b3 hS
    refine EL.quick 1 [40, 41] [(40, .slice d4 (a2.getD a1.toNat []).length b3), (41, .int .i64 a0)] (by kernel_rfl) ?_
    obtain ⟨c1, H⟩ := ite_in H
    obtain ⟨c2, H⟩ := ite_in H
    obtain ⟨a9, rfl⟩ := St.rd_some hS (Rd.own 0 96 rfl) c1 c2
    refine EL.of (EO.Y (YO.idx 94 4 a9 (a2.getD a1.toNat []).length b3 .i64 a0 42 (by kernel_rfl) (by kernel_rfl) (by kernel_rfl) (by kernel_rfl) c1 c2) ?_)
    refine EL.quick 1 [4] [(4, .pointer (some ((a9.add (a0.toNat * 4)).add 0)))] (by kernel_rfl) ?_
    refine EL.done (by kernel_rfl) ?_
    refine EQ.code ?_
    refine EW.ret (by kernel_rfl) ?_
    refine EQ.leave (.pointer (some ((a9.add (a0.toNat * 4)).add 0))) (by kernel_rfl) ⟨_, rfl, ?_⟩
    refine EL.quick 1 [2, 7] [(2, .func (.func 43) #[.agg #[.int .i64 1, .int .i32 a5, .int .i64 0]] #[]), (7, .pointer (some ((a9.add (a0.toNat * 4)).add 0)))] (by kernel_rfl) ?_
    refine EL.done (by kernel_rfl) ?_
    refine EQ.code ?_
    refine EW.seq (x := Cd42.r.r.l) (y := Cd42.r.r.r) (by kernel_rfl) ?_
    refine EW.seq (x := Cd42.r.r.l.l) (y := Cd42.r.r.l.r) (by kernel_rfl) ?_
    refine EW.region (id := 2) (ops := Cd42.r.r.l.l.ops) (by kernel_rfl) ?_
    refine EL.quick 6 [2, 7, 13, 16] [(2, .func (.func 43) #[.agg #[.int .i64 1, .int .i32 a5, .int .i64 0]] #[]), (7, .pointer (some ((a9.add (a0.toNat * 4)).add 0))), (13, .bool (false)), (16, .pointer (some ((a9.add (a0.toNat * 4)).add 1)))] (by kernel_rfl) ?_
    refine EL.of (EO.Y (YO.loadEl hS kS96 a9 b3 (a2.getD a1.toNat []) (Rd.own 0 96 rfl) zS96 encS96 encS96_of a0 c1 c2 3 4 1 1 rfl (.int .i64 (((a2.getD a1.toNat []).getD a0.toNat zS96).f1)) 17 (by kernel_rfl) (by kernel_rfl) (by kernel_rfl) (by kernel_rfl)) ?_)
    refine EL.quick 2 [2, 7, 19] [(2, .func (.func 43) #[.agg #[.int .i64 1, .int .i32 a5, .int .i64 0]] #[]), (7, .pointer (some ((a9.add (a0.toNat * 4)).add 0))), (19, .bool (!(decide ((((a2.getD a1.toNat []).getD a0.toNat zS96).f1) = 0))))] (by kernel_rfl) ?_
    refine EL.done (by kernel_rfl) ?_
    refine EQ.code ?_
    refine EW.condQ (b := !(decide ((((a2.getD a1.toNat []).getD a0.toNat zS96).f1) = 0))) (o := (.tmp 19)) (x := Cd42.r.r.l.r.l) (y := Cd42.r.r.l.r.r) ((((a2.getD a1.toNat []).getD a0.toNat zS96).f1) = 0) (false) (by kernel_rfl) (by kernel_rfl) ⟨fun h => (by rw [decide_eq_true h] <;> rfl), fun h => (by rw [decide_eq_false h] <;> rfl)⟩ (fun e0 => ?_) (fun e0 => ?_)
    ·rw [if_pos e0] at H
     refine EW.skip (by kernel_rfl) ?_
     refine EQ.code ?_
     refine EW.seq (x := Cd42.r.r.r.l) (y := Cd42.r.r.r.r) (by kernel_rfl) ?_
     refine EW.region (id := 4) (ops := Cd42.r.r.r.l.ops) (by kernel_rfl) ?_
     refine EL.quick 2 [20, 21] [(20, .func (.func 43) #[.agg #[.int .i64 1, .int .i32 a5, .int .i64 0]] #[]), (21, .pointer (some ((a9.add (a0.toNat * 4)).add 0)))] (by kernel_rfl) ?_
     refine EL.inline 43 [.agg #[.int .i64 1, .int .i32 a5, .int .i64 0], .pointer (some ((a9.add (a0.toNat * 4)).add 0))] 22 (by kernel_rfl) (by kernel_rfl) (by kernel_rfl) ?_
     refine calls_of_EW (args := [.agg #[.int .i64 1, .int .i32 a5, .int .i64 0], .pointer (some ((a9.add (a0.toNat * 4)).add 0))]) (c := Cd43) 19 Try.func43 (by kernel_rfl) (by kernel_rfl) (by kernel_rfl) ?_
     refine EW.seq (x := Cd43.l) (y := Cd43.r) (by kernel_rfl) ?_
     refine EW.region (id := 0) (ops := Cd43.l.ops) (by kernel_rfl) ?_
     refine EL.of (EO.box hS 100 (.agg #[.int .i64 1, .int .i32 a5, .int .i64 0]) [.int .i64 1, .int .i32 a5, .int .i64 0] 2 (by kernel_rfl) (by kernel_rfl) (by kernel_rfl) (by first | rfl | kernel_rfl) ?_)
     intro b6 w hS
     refine EL.done (by kernel_rfl) ?_
     refine EQ.code ?_
     obtain ⟨b4, d2, H⟩ := lt_out H
     obtain ⟨b5, e1, H⟩ := lt_out H
     obtain ⟨b8, e6, H⟩ := lt_out H
     have hS := hS.drew
     refine EW.draw (B := B) (id := 1) (ops := Cd43.r.ops) [Ass.box 100 b6 [.int .i64 1, .int .i32 a5, .int .i64 0], Ass.box 91 a3 [.slice (some b0) a2.length a4, .slice a7 a6.length a8], Ass.holed 94 96 kS96 (some b0) a4 a2 a1.toNat ((some a9), (a2.getD a1.toNat []).length, b3), Ass.own 3 (Kd.int .i64) a7 a8 a6] [] (by kernel_rfl) (by kernel_rfl) ?_
     have hN : Region.noSelect Cd43.r.ops = true := (by kernel_rfl)
     have hF : freeAll Cd43.r.ops = true := (by kernel_rfl)
     have hC : Core B [Ass.box 100 b6 [.int .i64 1, .int .i32 a5, .int .i64 0], Ass.box 91 a3 [.slice (some b0) a2.length a4, .slice a7 a6.length a8], Ass.holed 94 96 kS96 (some b0) a4 a2 a1.toNat ((some a9), (a2.getD a1.toNat []).length, b3), Ass.own 3 (Kd.int .i64) a7 a8 a6] [] _ := ⟨_, _, hS.re [4, 4, 4, 3] [] rfl sub_self⟩
     refine ED.quick hN hF hC [0, 1, 2, 3, 5, 7] [4, 5, 6, 7, 9, 11] 12 [(4, .pointer (some ((a9.add (a0.toNat * 4)).add 0))), (5, .pointer (some ((a9.add (a0.toNat * 4)).add 0))), (6, .pointer (some ((a9.add (a0.toNat * 4)).add 0))), (7, .pointer (some ⟨b6, 0, none⟩)), (9, .pointer (some ⟨b6, 1, none⟩)), (11, .pointer (some ⟨b6, 2, none⟩))] #[true, true, true, true, false, true, false, true, false, false, false, false, false, false, false, false, false, false] (by kernel_rfl) (by kernel_rfl) ?_
     refine ED.Y hN hF hC 4 11 #[true, true, true, true, true, true, false, true, false, false, false, false, false, false, false, false, false, false] (by kernel_rfl) (by kernel_rfl) rfl (fun _ _ _ hS => YO.loadBox hS 0 rfl 3 0 1 (.int .i64 1) 8 (by kernel_rfl) (by kernel_rfl) (by kernel_rfl) (by kernel_rfl)) ?_
     refine ED.quick hN hF hC [9, 10] [5, 6, 8, 9, 11, 14] 9 [(5, .pointer (some ((a9.add (a0.toNat * 4)).add 0))), (6, .pointer (some ((a9.add (a0.toNat * 4)).add 0))), (8, .int .i64 1), (9, .pointer (some ⟨b6, 1, none⟩)), (11, .pointer (some ⟨b6, 2, none⟩)), (14, .pointer (some ((a9.add (a0.toNat * 4)).add 1)))] #[true, true, true, true, true, true, false, true, false, true, true, false, false, false, false, false, false, false] (by kernel_rfl) (by kernel_rfl) ?_
     refine ED.Y hN hF hC 6 8 #[true, true, true, true, true, true, true, true, false, true, true, false, false, false, false, false, false, false] (by kernel_rfl) (by kernel_rfl) rfl (fun _ _ _ hS => YO.loadBox hS 0 rfl 21 1 1 (.int .i32 a5) 10 (by kernel_rfl) (by kernel_rfl) (by kernel_rfl) (by kernel_rfl)) ?_
     refine ED.Y hN hF hC 8 7 #[true, true, true, true, true, true, true, true, true, true, true, false, false, false, false, false, false, false] (by kernel_rfl) (by kernel_rfl) rfl (fun _ _ _ hS => YO.loadBox hS 0 rfl 57 2 1 (.int .i64 0) 12 (by kernel_rfl) (by kernel_rfl) (by kernel_rfl) (by kernel_rfl)) ?_
     refine ED.one 11 6 #[true, true, true, true, true, true, true, true, true, true, true, true, false, false, false, false, false, false] (by kernel_rfl) (by kernel_rfl) (by kernel_rfl) (EO.storeEl hS 1 kS96 96 a9 b3 (a2.getD a1.toNat []) rfl a0 c1 c2 zS96 3 4 1 rfl (.int .i64 1) (⟨((a2.getD a1.toNat []).getD a0.toNat zS96).f0, 1, ((a2.getD a1.toNat []).getD a0.toNat zS96).f2, ((a2.getD a1.toNat []).getD a0.toNat zS96).f3⟩ : S96) b4 d2 (Ass.box 100 b6 [.int .i64 1, .int .i32 a5, .int .i64 0] :: Ass.own 96 kS96 (some a9) b3 b4 :: Ass.box 91 a3 [.slice (some b0) a2.length a4, .slice a7 a6.length a8] :: Ass.holed 94 96 kS96 (some b0) a4 a2 a1.toNat ((some a9), (a2.getD a1.toNat []).length, b3) :: Ass.own 3 (Kd.int .i64) a7 a8 a6 :: os) (by kernel_rfl) (by kernel_rfl) (by kernel_rfl) (by kernel_rfl) (by kernel_rfl) (by kernel_rfl) (fun w G vs hr h => (by have e := encS96_of _ _ _ _ h; subst e; exact ⟨[.int .i64 (((a2.getD a1.toNat []).getD a0.toNat zS96).f0)], [.int .i64 1, .int .i32 (((a2.getD a1.toNat []).getD a0.toNat zS96).f2), .int .i64 (((a2.getD a1.toNat []).getD a0.toNat zS96).f3)], rfl, rfl, ⟨[.int .i64 1], [.int .i32 (((a2.getD a1.toNat []).getD a0.toNat zS96).f2), .int .i64 (((a2.getD a1.toNat []).getD a0.toNat zS96).f3)], rfl, rfl, ⟨[.int .i32 (((a2.getD a1.toNat []).getD a0.toNat zS96).f2)], [.int .i64 (((a2.getD a1.toNat []).getD a0.toNat zS96).f3)], rfl, rfl, ⟨[.int .i64 (((a2.getD a1.toNat []).getD a0.toNat zS96).f3)], [], rfl, rfl, rfl⟩⟩⟩⟩)) rfl ?_)
     intro w hS
     have hC : Core B [Ass.box 100 b6 [.int .i64 1, .int .i32 a5, .int .i64 0], Ass.box 91 a3 [.slice (some b0) a2.length a4, .slice a7 a6.length a8], Ass.holed 94 96 kS96 (some b0) a4 a2 a1.toNat ((some a9), (a2.getD a1.toNat []).length, b3), Ass.own 3 (Kd.int .i64) a7 a8 a6] [] _ := ⟨_, _, hS.re [4, 4, 4, 3] [] rfl sub_self⟩
     refine ⟨hC, ?_⟩
     refine ED.quick hN hF hC [12, 13] [6, 10, 12, 16] 4 [(6, .pointer (some ((a9.add (a0.toNat * 4)).add 0))), (10, .int .i32 a5), (12, .int .i64 0), (16, .pointer (some ((a9.add (a0.toNat * 4)).add 2)))] #[true, true, true, true, true, true, true, true, true, true, true, true, true, true, false, false, false, false] (by kernel_rfl) (by kernel_rfl) ?_
     refine ED.one 14 3 #[true, true, true, true, true, true, true, true, true, true, true, true, true, true, true, false, false, false] (by kernel_rfl) (by kernel_rfl) (by kernel_rfl) (EO.storeEl hS 1 kS96 96 a9 b3 b4 rfl a0 c1 (lt_set c2 d2) zS96 21 4 2 rfl (.int .i32 a5) (⟨(b4.getD a0.toNat zS96).f0, (b4.getD a0.toNat zS96).f1, a5, (b4.getD a0.toNat zS96).f3⟩ : S96) b5 e1 (Ass.box 100 b6 [.int .i64 1, .int .i32 a5, .int .i64 0] :: Ass.own 96 kS96 (some a9) b3 b5 :: Ass.box 91 a3 [.slice (some b0) a2.length a4, .slice a7 a6.length a8] :: Ass.holed 94 96 kS96 (some b0) a4 a2 a1.toNat ((some a9), (a2.getD a1.toNat []).length, b3) :: Ass.own 3 (Kd.int .i64) a7 a8 a6 :: os) (by kernel_rfl) (by kernel_rfl) (by kernel_rfl) (by kernel_rfl) (by kernel_rfl) (by kernel_rfl) (fun w G vs hr h => (by have e := encS96_of _ _ _ _ h; subst e; exact ⟨[.int .i64 ((b4.getD a0.toNat zS96).f0)], [.int .i64 ((b4.getD a0.toNat zS96).f1), .int .i32 a5, .int .i64 ((b4.getD a0.toNat zS96).f3)], rfl, rfl, ⟨[.int .i64 ((b4.getD a0.toNat zS96).f1)], [.int .i32 a5, .int .i64 ((b4.getD a0.toNat zS96).f3)], rfl, rfl, ⟨[.int .i32 a5], [.int .i64 ((b4.getD a0.toNat zS96).f3)], rfl, rfl, ⟨[.int .i64 ((b4.getD a0.toNat zS96).f3)], [], rfl, rfl, rfl⟩⟩⟩⟩)) rfl ?_)
     intro w hS
     have hC : Core B [Ass.box 100 b6 [.int .i64 1, .int .i32 a5, .int .i64 0], Ass.box 91 a3 [.slice (some b0) a2.length a4, .slice a7 a6.length a8], Ass.holed 94 96 kS96 (some b0) a4 a2 a1.toNat ((some a9), (a2.getD a1.toNat []).length, b3), Ass.own 3 (Kd.int .i64) a7 a8 a6] [] _ := ⟨_, _, hS.re [4, 4, 4, 3] [] rfl sub_self⟩
     refine ⟨hC, ?_⟩
     refine ED.quick hN hF hC [15, 16] [12, 18] 1 [(12, .int .i64 0), (18, .pointer (some ((a9.add (a0.toNat * 4)).add 3)))] #[true, true, true, true, true, true, true, true, true, true, true, true, true, true, true, true, true, false] (by kernel_rfl) (by kernel_rfl) ?_
     refine ED.one 17 0 #[true, true, true, true, true, true, true, true, true, true, true, true, true, true, true, true, true, true] (by kernel_rfl) (by kernel_rfl) (by kernel_rfl) (EO.storeEl hS 1 kS96 96 a9 b3 b5 rfl a0 c1 (lt_set (lt_set c2 d2) e1) zS96 57 4 3 rfl (.int .i64 0) (⟨(b5.getD a0.toNat zS96).f0, (b5.getD a0.toNat zS96).f1, (b5.getD a0.toNat zS96).f2, 0⟩ : S96) b8 e6 (Ass.box 100 b6 [.int .i64 1, .int .i32 a5, .int .i64 0] :: Ass.own 96 kS96 (some a9) b3 b8 :: Ass.box 91 a3 [.slice (some b0) a2.length a4, .slice a7 a6.length a8] :: Ass.holed 94 96 kS96 (some b0) a4 a2 a1.toNat ((some a9), (a2.getD a1.toNat []).length, b3) :: Ass.own 3 (Kd.int .i64) a7 a8 a6 :: os) (by kernel_rfl) (by kernel_rfl) (by kernel_rfl) (by kernel_rfl) (by kernel_rfl) (by kernel_rfl) (fun w G vs hr h => (by have e := encS96_of _ _ _ _ h; subst e; exact ⟨[.int .i64 ((b5.getD a0.toNat zS96).f0)], [.int .i64 ((b5.getD a0.toNat zS96).f1), .int .i32 ((b5.getD a0.toNat zS96).f2), .int .i64 0], rfl, rfl, ⟨[.int .i64 ((b5.getD a0.toNat zS96).f1)], [.int .i32 ((b5.getD a0.toNat zS96).f2), .int .i64 0], rfl, rfl, ⟨[.int .i32 ((b5.getD a0.toNat zS96).f2)], [.int .i64 0], rfl, rfl, ⟨[.int .i64 0], [], rfl, rfl, rfl⟩⟩⟩⟩)) rfl ?_)
     intro w hS
     have hC : Core B [Ass.box 100 b6 [.int .i64 1, .int .i32 a5, .int .i64 0], Ass.box 91 a3 [.slice (some b0) a2.length a4, .slice a7 a6.length a8], Ass.holed 94 96 kS96 (some b0) a4 a2 a1.toNat ((some a9), (a2.getD a1.toNat []).length, b3), Ass.own 3 (Kd.int .i64) a7 a8 a6] [] _ := ⟨_, _, hS.re [4, 4, 4, 3] [] rfl sub_self⟩
     refine ⟨hC, ?_⟩
     refine ED.done (by kernel_rfl) ?_
     refine EQ.leaveN (.tuple #[]) (by kernel_rfl) ⟨_, rfl, ?_⟩
     refine EL.done (by kernel_rfl) ?_
     refine EQ.code ?_
     refine EW.seq (x := Cd42.r.r.r.r.l) (y := Cd42.r.r.r.r.r) (by kernel_rfl) ?_
     refine EW.region (id := 5) (ops := Cd42.r.r.r.r.l.ops) (by kernel_rfl) ?_
     refine EL.quick 1 [6] [(6, .bool (true))] (by kernel_rfl) ?_
     refine EL.done (by kernel_rfl) ?_
     refine EQ.code ?_
     refine EW.ret (by kernel_rfl) ?_
     have hS := St.as (os' := Ass.box 100 b6 [.int .i64 1, .int .i32 a5, .int .i64 0] :: Ass.box 91 a3 [.slice (some b0) a2.length a4, .slice a7 a6.length a8] :: Ass.deep 94 96 kS96 (some b0) a4 (a2.set a1.toNat b8) :: Ass.own 3 (Kd.int .i64) a7 a8 a6 :: os) (St.close hS 1 2 rfl rfl (len_set (len_set (len_set rfl d2) e1) e6) (a2.set a1.toNat b8) rfl) rfl
     have hS := St.as hS (os' := Ass.box 100 b6 [.int .i64 1, .int .i32 a5, .int .i64 0] :: Ass.box 91 a3 [.slice (some b0) (a2.set a1.toNat b8).length a4, .slice a7 a6.length a8] :: Ass.deep 94 96 kS96 (some b0) a4 (a2.set a1.toNat b8) :: Ass.own 3 (Kd.int .i64) a7 a8 a6 :: os) (by simp only [List.length_set])
     exact EQ.leave (.bool (true)) (by kernel_rfl) ⟨_, rfl, (a2.set a1.toNat b8), true, (some b0), a4, rfl, (hS.re [3, 3, 3] [3] rfl (sub_self)), H⟩
    ·rw [if_neg e0] at H
     refine EW.seq (x := Cd42.r.r.l.r.l.l) (y := Cd42.r.r.l.r.l.r) (by kernel_rfl) ?_
     refine EW.region (id := 3) (ops := Cd42.r.r.l.r.l.l.ops) (by kernel_rfl) ?_
     refine EL.quick 1 [6] [(6, .bool (false))] (by kernel_rfl) ?_
     refine EL.done (by kernel_rfl) ?_
     refine EQ.code ?_
     refine EW.ret (by kernel_rfl) ?_
     refine EQ.ret ?_
     have hS := St.as (os' := Ass.box 91 a3 [.slice (some b0) a2.length a4, .slice a7 a6.length a8] :: Ass.deep 94 96 kS96 (some b0) a4 a2 :: Ass.own 3 (Kd.int .i64) a7 a8 a6 :: os) (St.close hS 0 1 rfl rfl rfl a2 (set_getD _ _)) rfl
     exact EQ.leave (.bool (false)) (by kernel_rfl) ⟨_, rfl, a2, false, (some b0), a4, rfl, (hS.re [2, 2, 2] [] rfl (sub_self)), H⟩
 ·rintro v w ⟨c3, b9, c8, c9, rfl, hS, H⟩
  rw [e9] at H
  (try dsimp only at H)
  refine EL.quick 1 [6] [(6, .bool (b9))] (by kernel_rfl) ?_
  refine EL.done (by kernel_rfl) ?_
  refine EQ.code ?_
  refine EW.ret (by kernel_rfl) ?_
  simp only [Option.some.injEq, Prod.mk.injEq] at H
  obtain ⟨rfl, rfl⟩ := H
  exact EQ.leave (.bool (b9)) (by kernel_rfl) ⟨_, rfl, c8, c9, rfl, (hS.re [2, 2, 2] [] rfl (sub_self))⟩

/-! ### slices.Clone[[]int32,int32]: function 75 -/
def slices_Clone_int32_int32.f (K : Nat) (a0 : List Int) : Option (List Int) := lt ([] : List Int) fun a3 => (if (a3.length + a0.length) * 4 ≤ 140737488355328 then (lt (a3 ++ a0) fun a4 => (some a4)) else none)
set_option maxRecDepth 100000 in
theorem slices_Clone_int32_int32.calls {K : Nat} {a0 : List Int} {a2 : Option Addr} {a1 : Nat} {a7 : List Int} {B w : World} {os : List Ass} {rs : List Ro} (H : slices_Clone_int32_int32.f K a0 = some a7) (hS : St B w (os) (Ro.sl (Kd.int .i32) a2 a1 a0 :: rs)) :
  Calls Try.prog 75 [.slice a2 a0.length a1].toArray w (fun en w' => ∃ v, en = .returned v ∧ ∃ a9 : Option Addr, ∃ b0 : Nat, v = .slice a9 a7.length b0 ∧ St B w' (Ass.own 21 (Kd.int .i32) a9 b0 a7 :: os) (Ro.sl (Kd.int .i32) a2 a1 a0 :: rs)) := by
 unfold slices_Clone_int32_int32.f at H
 refine calls_of_EW (args := [.slice a2 a0.length a1]) (c := Cd75) 8 Try.func75 (by kernel_rfl) (by kernel_rfl) (by kernel_rfl) ?_
 refine EW.seq (x := Cd75.l) (y := Cd75.r) (by kernel_rfl) ?_
 refine EW.region (id := 0) (ops := Cd75.l.ops) (by kernel_rfl) ?_
 refine EL.quick 1 [0] [(0, .slice a2 a0.length a1)] (by kernel_rfl) ?_
 refine EL.done (by kernel_rfl) ?_
 refine EQ.code ?_
 refine EW.seq (x := Cd75.r.l) (y := Cd75.r.r) (by kernel_rfl) ?_
 refine EW.seq (x := Cd75.r.l.l) (y := Cd75.r.l.r) (by kernel_rfl) ?_
 refine EW.region (id := 1) (ops := Cd75.r.l.l.ops) (by kernel_rfl) ?_
 refine EL.quick 1 [0, 3] [(0, .slice a2 a0.length a1), (3, .slice a2 a0.length a1)] (by kernel_rfl) ?_
 rcases a2 with _ | a8
 ·have b3 := St.rd_nil hS (Rd.ro 0 rfl)
  have H : (some ([] : List Int)) = some a7 := by simpa [lt, b3] using H
  refine EL.quick 1 [0, 4] [(0, .slice none a0.length a1), (4, .bool (true))] (by kernel_rfl) ?_
  refine EL.done (by kernel_rfl) ?_
  refine EQ.code ?_
  refine EW.condT (o := (.tmp 4)) (x := Cd75.r.l.r.l) (y := Cd75.r.l.r.r) (by kernel_rfl) (by kernel_rfl) ?_
  refine EW.seq (x := Cd75.r.l.r.l.l) (y := Cd75.r.l.r.l.r) (by kernel_rfl) ?_
  refine EW.region (id := 2) (ops := Cd75.r.l.r.l.l.ops) (by kernel_rfl) ?_
  refine EL.quick 1 [2] [(2, .slice none ([] : List Int).length 0)] (by kernel_rfl) ?_
  refine EL.done (by kernel_rfl) ?_
  refine EQ.code ?_
  refine EW.ret (by kernel_rfl) ?_
  refine EQ.ret ?_
  have hS := St.nilO hS 21 (Kd.int .i32)
  obtain rfl := Option.some.inj H
  exact EQ.leave (.slice none ([] : List Int).length 0) (by kernel_rfl) ⟨_, rfl, none, 0, rfl, (hS.re [0] [] rfl (sub_self))⟩
 ·refine EL.quick 1 [0, 4] [(0, .slice (some a8) a0.length a1), (4, .bool (false))] (by kernel_rfl) ?_
  refine EL.done (by kernel_rfl) ?_
  refine EQ.code ?_
  refine EW.condF (o := (.tmp 4)) (x := Cd75.r.l.r.l) (y := Cd75.r.l.r.r) (by kernel_rfl) (by kernel_rfl) ?_
  refine EW.skip (by kernel_rfl) ?_
  refine EQ.code ?_
  refine EW.seq (x := Cd75.r.r.l) (y := Cd75.r.r.r) (by kernel_rfl) ?_
  refine EW.region (id := 3) (ops := Cd75.r.r.l.ops) (by kernel_rfl) ?_
  obtain ⟨a3, b2, H⟩ := lt_out H
  refine EL.of (EO.lit hS (Kd.int .i32) 21 32 0 #[] [] a3 5 (by kernel_rfl) (by kernel_rfl) (by kernel_rfl) (fun _ => (by kernel_rfl)) (by rw [b2]; rfl) (by kernel_rfl) (fun w G hr => (by rw [b2]; exact rfl)) ?_)
  intro b1 w hS
  refine EL.quick 1 [5, 6] [(5, .slice (some ⟨b1, 0, none⟩) a3.length 0), (6, .slice (some a8) a0.length a1)] (by kernel_rfl) ?_
  obtain ⟨b4, H⟩ := ite_in H
  obtain ⟨a4, b5, H⟩ := lt_out H
  refine EL.of (EO.append hS 32 32 21 4 0 (Kd.int .i32) (some ⟨b1, 0, none⟩) 0 a3 rfl (some a8) a1 a0 (Rd.ro 0 rfl) a4 b5 (fun a5 a6 => Ass.own 21 (Kd.int .i32) a5 a6 a4 :: os) 7 (by kernel_rfl) (by kernel_rfl) (by kernel_rfl) (by kernel_rfl) b4 (fun _ _ => rfl) ?_)
  intro a5 a6 w hS
  refine EL.quick 1 [2] [(2, .slice a5 a4.length a6)] (by kernel_rfl) ?_
  refine EL.done (by kernel_rfl) ?_
  refine EQ.code ?_
  refine EW.ret (by kernel_rfl) ?_
  obtain rfl := Option.some.inj H
  exact EQ.leave (.slice a5 a4.length a6) (by kernel_rfl) ⟨_, rfl, a5, a6, rfl, (hS.re [0] [] rfl (sub_self))⟩

/-! ### confidant/task.Drop: function 65 -/
def task_Drop.f (K : Nat) (a4 : Int) (a5 : Int) (a1 : Int) (a0 : List Int) (a6 : Int) (a7 : Int) (a8 : Int) (a9 : Int) (b0 : Int) (b2 : Int) (b3 : Int) (b4 : Int) (c5 : Int) (a3 : List Int) : Option S36 := lt (IntKind.i64.wrap ((a0.length : Int) - (mn (mx c5 0) (a0.length : Int)))) fun c4 => (if 0 ≤ c4 then (if c4 ≤ (a0.length : Int) then (lt (a0.take c4.toNat) fun c6 => (b1 (slices_Clone_int32_int32.f K c6) fun (c7 : List Int) => (if (c7.length + a3.length) * 4 ≤ 140737488355328 then (lt (c7 ++ a3) fun c0 => (some (⟨a4, a5, IntKind.i64.wrap (a1 + 1), c0, (⟨a6, a7, a8, a9⟩ : S33), b0, b2, b3, b4⟩ : S36))) else none))) else none) else none)
set_option maxRecDepth 100000 in
theorem task_Drop.calls {K : Nat} {a4 : Int} {a5 : Int} {a1 : Int} {a0 : List Int} {a6 : Int} {a7 : Int} {a8 : Int} {a9 : Int} {b0 : Int} {b2 : Int} {b3 : Int} {b4 : Int} {c5 : Int} {a3 : List Int} {b6 : Option Addr} {b5 : Nat} {b7 : Option Addr} {b8 : Nat} {c3 : S36} {B w : World} {os : List Ass} {rs : List Ro} (H : task_Drop.f K a4 a5 a1 a0 a6 a7 a8 a9 b0 b2 b3 b4 c5 a3 = some c3) (hS : St B w (os) (Ro.sl (Kd.int .i32) b6 b5 a0 :: Ro.sl (Kd.int .i32) b7 b8 a3 :: rs)) :
  Calls Try.prog 65 [.agg #[.int .i32 a4, .int .i64 a5, .int .i64 a1, .slice b6 a0.length b5, .int .i32 a6, .int .i32 a7, .int .i32 a8, .int .i32 a9, .int .i64 b0, .int .i64 b2, .int .u32 b3, .int .i64 b4], .int .i64 c5, .slice b7 a3.length b8].toArray w (fun en w' => ∃ v, en = .returned v ∧ ∃ d0 : Option Addr, ∃ d2 : Nat, v = .agg #[.int .i32 c3.f0, .int .i64 c3.f1, .int .i64 c3.f2, .slice d0 c3.f3.length d2, .int .i32 c3.f4.f0, .int .i32 c3.f4.f1, .int .i32 c3.f4.f2, .int .i32 c3.f4.f3, .int .i64 c3.f5, .int .i64 c3.f6, .int .u32 c3.f7, .int .i64 c3.f8] ∧ St B w' (os) (Ro.sl (Kd.int .i32) d0 d2 c3.f3 :: Ro.sl (Kd.int .i32) b6 b5 a0 :: Ro.sl (Kd.int .i32) b7 b8 a3 :: rs)) := by
 unfold task_Drop.f at H
 refine calls_of_EW (args := [.agg #[.int .i32 a4, .int .i64 a5, .int .i64 a1, .slice b6 a0.length b5, .int .i32 a6, .int .i32 a7, .int .i32 a8, .int .i32 a9, .int .i64 b0, .int .i64 b2, .int .u32 b3, .int .i64 b4], .int .i64 c5, .slice b7 a3.length b8]) (c := Cd65) 31 Try.func65 (by kernel_rfl) (by kernel_rfl) (by kernel_rfl) ?_
 refine EW.seq (x := Cd65.l) (y := Cd65.r) (by kernel_rfl) ?_
 refine EW.region (id := 0) (ops := Cd65.l.ops) (by kernel_rfl) ?_
 refine EL.of (EO.box hS 36 (.agg #[.int .i32 a4, .int .i64 a5, .int .i64 a1, .slice b6 a0.length b5, .int .i32 a6, .int .i32 a7, .int .i32 a8, .int .i32 a9, .int .i64 b0, .int .i64 b2, .int .u32 b3, .int .i64 b4]) [.int .i32 a4, .int .i64 a5, .int .i64 a1, .slice b6 a0.length b5, .int .i32 a6, .int .i32 a7, .int .i32 a8, .int .i32 a9, .int .i64 b0, .int .i64 b2, .int .u32 b3, .int .i64 b4] 3 (by kernel_rfl) (by kernel_rfl) (by kernel_rfl) (by first | rfl | kernel_rfl) ?_)
 intro a2 w hS
 refine EL.of (EO.alloc hS 36 (.agg #[.int .i32 0, .int .i64 0, .int .i64 0, .slice none ([] : List Int).length 0, .int .i32 0, .int .i32 0, .int .i32 0, .int .i32 0, .int .i64 0, .int .i64 0, .int .u32 0, .int .i64 0]) [.int .i32 0, .int .i64 0, .int .i64 0, .slice none ([] : List Int).length 0, .int .i32 0, .int .i32 0, .int .i32 0, .int .i32 0, .int .i64 0, .int .i64 0, .int .u32 0, .int .i64 0] 6 (by kernel_rfl) (by kernel_rfl) (by kernel_rfl) (by kernel_rfl) (by first | rfl | kernel_rfl) ?_)
 intro b9 w hS
 refine EL.done (by kernel_rfl) ?_
 refine EQ.code ?_
 refine EW.seq (x := Cd65.r.l) (y := Cd65.r.r) (by kernel_rfl) ?_
 refine EW.region (id := 1) (ops := Cd65.r.l.ops) (by kernel_rfl) ?_
 refine EL.quick 1 [1, 2, 3, 6, 8] [(1, .int .i64 c5), (2, .slice b7 a3.length b8), (3, .pointer (some ⟨a2, 0, none⟩)), (6, .pointer (some ⟨b9, 0, none⟩)), (8, .pointer (some ⟨a2, 3, none⟩))] (by kernel_rfl) ?_
 refine EL.of (EO.Y (YO.loadBox hS 1 rfl 32 3 1 (.slice b6 a0.length b5) 9 (by kernel_rfl) (by kernel_rfl) (by kernel_rfl) (by kernel_rfl)) ?_)
 refine EL.quick 4 [2, 3, 6, 10, 12, 13] [(2, .slice b7 a3.length b8), (3, .pointer (some ⟨a2, 0, none⟩)), (6, .pointer (some ⟨b9, 0, none⟩)), (10, .int .i64 (a0.length : Int)), (12, .int .i64 (mx c5 0)), (13, .pointer (some ⟨a2, 3, none⟩))] (by kernel_rfl) ?_
 refine EL.of (EO.Y (YO.loadBox hS 1 rfl 32 3 1 (.slice b6 a0.length b5) 14 (by kernel_rfl) (by kernel_rfl) (by kernel_rfl) (by kernel_rfl)) ?_)
 refine EL.quick 4 [2, 3, 6, 7] [(2, .slice b7 a3.length b8), (3, .pointer (some ⟨a2, 0, none⟩)), (6, .pointer (some ⟨b9, 0, none⟩)), (7, .int .i64 (IntKind.i64.wrap ((a0.length : Int) - (mn (mx c5 0) (a0.length : Int)))))] (by kernel_rfl) ?_
 obtain ⟨c4, d8, H⟩ := lt_out H
 refine EL.keep [2, 3, 6, 7] [(2, .slice b7 a3.length b8), (3, .pointer (some ⟨a2, 0, none⟩)), (6, .pointer (some ⟨b9, 0, none⟩)), (7, .int .i64 (IntKind.i64.wrap ((a0.length : Int) - (mn (mx c5 0) (a0.length : Int)))))] (by kernel_rfl) ?_
 refine EL.as' [(2, .slice b7 a3.length b8), (3, .pointer (some ⟨a2, 0, none⟩)), (6, .pointer (some ⟨b9, 0, none⟩)), (7, .int .i64 c4)] (by subst d8; rfl) ?_
 refine EL.done (by kernel_rfl) ?_
 refine EQ.code ?_
 refine EW.seq (x := Cd65.r.r.l) (y := Cd65.r.r.r) (by kernel_rfl) ?_
 refine EW.region (id := 2) (ops := Cd65.r.r.l.ops) (by kernel_rfl) ?_
 refine EL.quick 1 [2, 3, 6, 7, 18] [(2, .slice b7 a3.length b8), (3, .pointer (some ⟨a2, 0, none⟩)), (6, .pointer (some ⟨b9, 0, none⟩)), (7, .int .i64 c4), (18, .pointer (some ⟨a2, 2, none⟩))] (by kernel_rfl) ?_
 refine EL.of (EO.Y (YO.loadBox hS 1 rfl 3 2 1 (.int .i64 a1) 19 (by kernel_rfl) (by kernel_rfl) (by kernel_rfl) (by kernel_rfl)) ?_)
 refine EL.quick 2 [2, 3, 6, 7, 20, 21] [(2, .slice b7 a3.length b8), (3, .pointer (some ⟨a2, 0, none⟩)), (6, .pointer (some ⟨b9, 0, none⟩)), (7, .int .i64 c4), (20, .int .i64 (IntKind.i64.wrap (a1 + 1))), (21, .pointer (some ⟨a2, 2, none⟩))] (by kernel_rfl) ?_
 refine EL.of (EO.storeBox (os' := Ass.box 36 b9 [.int .i32 0, .int .i64 0, .int .i64 0, .slice none ([] : List Int).length 0, .int .i32 0, .int .i32 0, .int .i32 0, .int .i32 0, .int .i64 0, .int .i64 0, .int .u32 0, .int .i64 0] :: Ass.box 36 a2 [.int .i32 a4, .int .i64 a5, .int .i64 (IntKind.i64.wrap (a1 + 1)), .slice b6 a0.length b5, .int .i32 a6, .int .i32 a7, .int .i32 a8, .int .i32 a9, .int .i64 b0, .int .i64 b2, .int .u32 b3, .int .i64 b4] :: os) hS 1 rfl 3 2 (.int .i64 (IntKind.i64.wrap (a1 + 1))) [.int .i32 a4, .int .i64 a5, .int .i64 (IntKind.i64.wrap (a1 + 1)), .slice b6 a0.length b5, .int .i32 a6, .int .i32 a7, .int .i32 a8, .int .i32 a9, .int .i64 b0, .int .i64 b2, .int .u32 b3, .int .i64 b4] (by kernel_rfl) (by kernel_rfl) (by kernel_rfl) (by kernel_rfl) (by kernel_rfl) (by kernel_rfl) rfl rfl ?_)
 intro w hS
 refine EL.done (by kernel_rfl) ?_
 refine EQ.code ?_
 refine EW.seq (x := Cd65.r.r.r.l) (y := Cd65.r.r.r.r) (by kernel_rfl) ?_
 refine EW.region (id := 3) (ops := Cd65.r.r.r.l.ops) (by kernel_rfl) ?_
 refine EL.quick 1 [2, 3, 6, 7, 22] [(2, .slice b7 a3.length b8), (3, .pointer (some ⟨a2, 0, none⟩)), (6, .pointer (some ⟨b9, 0, none⟩)), (7, .int .i64 c4), (22, .pointer (some ⟨a2, 3, none⟩))] (by kernel_rfl) ?_
 refine EL.of (EO.Y (YO.loadBox hS 1 rfl 32 3 1 (.slice b6 a0.length b5) 23 (by kernel_rfl) (by kernel_rfl) (by kernel_rfl) (by kernel_rfl)) ?_)
 refine EL.quick 1 [2, 3, 6, 23, 24] [(2, .slice b7 a3.length b8), (3, .pointer (some ⟨a2, 0, none⟩)), (6, .pointer (some ⟨b9, 0, none⟩)), (23, .slice b6 a0.length b5), (24, .int .i64 c4)] (by kernel_rfl) ?_
 obtain ⟨d9, H⟩ := ite_in H
 obtain ⟨e0, H⟩ := ite_in H
 obtain ⟨c6, d6, H⟩ := lt_out H
 refine EL.of (EO.sliceRo hS (Kd.int .i32) b6 b5 a0 0 rfl none (some (.int .i64 c4)) none 0 c4.toNat b5 c6 (by rw [d6]; exact (slice_hi _ _)) 32 25 (by kernel_rfl) (by kernel_rfl) (by kernel_rfl) (by kernel_rfl) (rfl) ((Int.toNat_of_nonneg (by omega)).symm) ⟨rfl, fun h => by first | rfl | cases h⟩ (by omega) (by omega) (.inl rfl) ?_)
 intro c8 c9 hS
 have hS : St B _ (Ass.box 36 b9 [.int .i32 0, .int .i64 0, .int .i64 0, .slice none ([] : List Int).length 0, .int .i32 0, .int .i32 0, .int .i32 0, .int .i32 0, .int .i64 0, .int .i64 0, .int .u32 0, .int .i64 0] :: Ass.box 36 a2 [.int .i32 a4, .int .i64 a5, .int .i64 (IntKind.i64.wrap (a1 + 1)), .slice b6 a0.length b5, .int .i32 a6, .int .i32 a7, .int .i32 a8, .int .i32 a9, .int .i64 b0, .int .i64 b2, .int .u32 b3, .int .i64 b4] :: os) (Ro.sl (Kd.int .i32) c8 c9 c6 :: Ro.sl (Kd.int .i32) c8 c9 c6 :: Ro.sl (Kd.int .i32) b6 b5 a0 :: Ro.sl (Kd.int .i32) b7 b8 a3 :: rs) := hS.re [] [] rfl (sub_cons 0 rfl sub_self)
 obtain ⟨c7, d5, H⟩ := b1_out H
 refine EL.of (EO.callD 75 [.slice c8 c6.length c9] _ 26 (by kernel_rfl) (by kernel_rfl) (by kernel_rfl) (slices_Clone_int32_int32.calls d5 hS) ?_)
 rintro v w ⟨d1, d3, rfl, hS⟩
 refine EL.quick 1 [3, 6, 26, 27] [(3, .pointer (some ⟨a2, 0, none⟩)), (6, .pointer (some ⟨b9, 0, none⟩)), (26, .slice d1 c7.length d3), (27, .slice b7 a3.length b8)] (by kernel_rfl) ?_
 obtain ⟨d4, H⟩ := ite_in H
 obtain ⟨c0, d7, H⟩ := lt_out H
 refine EL.of (EO.append hS 32 32 21 4 0 (Kd.int .i32) d1 d3 c7 rfl b7 b8 a3 (Rd.ro 3 rfl) c0 d7 (fun c1 c2 => Ass.own 21 (Kd.int .i32) c1 c2 c0 :: Ass.box 36 b9 [.int .i32 0, .int .i64 0, .int .i64 0, .slice none ([] : List Int).length 0, .int .i32 0, .int .i32 0, .int .i32 0, .int .i32 0, .int .i64 0, .int .i64 0, .int .u32 0, .int .i64 0] :: Ass.box 36 a2 [.int .i32 a4, .int .i64 a5, .int .i64 (IntKind.i64.wrap (a1 + 1)), .slice b6 a0.length b5, .int .i32 a6, .int .i32 a7, .int .i32 a8, .int .i32 a9, .int .i64 b0, .int .i64 b2, .int .u32 b3, .int .i64 b4] :: os) 28 (by kernel_rfl) (by kernel_rfl) (by kernel_rfl) (by kernel_rfl) d4 (fun _ _ => rfl) ?_)
 intro c1 c2 w hS
 refine EL.quick 1 [3, 6, 28, 29] [(3, .pointer (some ⟨a2, 0, none⟩)), (6, .pointer (some ⟨b9, 0, none⟩)), (28, .slice c1 c0.length c2), (29, .pointer (some ⟨a2, 3, none⟩))] (by kernel_rfl) ?_
 refine EL.of (EO.storeBox (os' := Ass.own 21 (Kd.int .i32) c1 c2 c0 :: Ass.box 36 b9 [.int .i32 0, .int .i64 0, .int .i64 0, .slice none ([] : List Int).length 0, .int .i32 0, .int .i32 0, .int .i32 0, .int .i32 0, .int .i64 0, .int .i64 0, .int .u32 0, .int .i64 0] :: Ass.box 36 a2 [.int .i32 a4, .int .i64 a5, .int .i64 (IntKind.i64.wrap (a1 + 1)), .slice c1 c0.length c2, .int .i32 a6, .int .i32 a7, .int .i32 a8, .int .i32 a9, .int .i64 b0, .int .i64 b2, .int .u32 b3, .int .i64 b4] :: os) hS 2 rfl 32 3 (.slice c1 c0.length c2) [.int .i32 a4, .int .i64 a5, .int .i64 (IntKind.i64.wrap (a1 + 1)), .slice c1 c0.length c2, .int .i32 a6, .int .i32 a7, .int .i32 a8, .int .i32 a9, .int .i64 b0, .int .i64 b2, .int .u32 b3, .int .i64 b4] (by kernel_rfl) (by kernel_rfl) (by kernel_rfl) (by kernel_rfl) (by kernel_rfl) (by kernel_rfl) rfl rfl ?_)
 intro w hS
 refine EL.done (by kernel_rfl) ?_
 refine EQ.code ?_
 refine EW.seq (x := Cd65.r.r.r.r.l) (y := Cd65.r.r.r.r.r) (by kernel_rfl) ?_
 refine EW.region (id := 4) (ops := Cd65.r.r.r.r.l.ops) (by kernel_rfl) ?_
 refine EL.of (EO.Y (YO.loadBox hS 2 rfl 36 0 12 (.agg #[.int .i32 a4, .int .i64 a5, .int .i64 (IntKind.i64.wrap (a1 + 1)), .slice c1 c0.length c2, .int .i32 a6, .int .i32 a7, .int .i32 a8, .int .i32 a9, .int .i64 b0, .int .i64 b2, .int .u32 b3, .int .i64 b4]) 30 (by kernel_rfl) (by kernel_rfl) (by kernel_rfl) (by kernel_rfl)) ?_)
 refine EL.of (EO.storeBox (os' := Ass.own 21 (Kd.int .i32) c1 c2 c0 :: Ass.box 36 b9 [.int .i32 a4, .int .i64 a5, .int .i64 (IntKind.i64.wrap (a1 + 1)), .slice c1 c0.length c2, .int .i32 a6, .int .i32 a7, .int .i32 a8, .int .i32 a9, .int .i64 b0, .int .i64 b2, .int .u32 b3, .int .i64 b4] :: Ass.box 36 a2 [.int .i32 a4, .int .i64 a5, .int .i64 (IntKind.i64.wrap (a1 + 1)), .slice c1 c0.length c2, .int .i32 a6, .int .i32 a7, .int .i32 a8, .int .i32 a9, .int .i64 b0, .int .i64 b2, .int .u32 b3, .int .i64 b4] :: os) hS 1 rfl 36 0 (.agg #[.int .i32 a4, .int .i64 a5, .int .i64 (IntKind.i64.wrap (a1 + 1)), .slice c1 c0.length c2, .int .i32 a6, .int .i32 a7, .int .i32 a8, .int .i32 a9, .int .i64 b0, .int .i64 b2, .int .u32 b3, .int .i64 b4]) [.int .i32 a4, .int .i64 a5, .int .i64 (IntKind.i64.wrap (a1 + 1)), .slice c1 c0.length c2, .int .i32 a6, .int .i32 a7, .int .i32 a8, .int .i32 a9, .int .i64 b0, .int .i64 b2, .int .u32 b3, .int .i64 b4] (by kernel_rfl) (by kernel_rfl) (by kernel_rfl) (by kernel_rfl) (by kernel_rfl) (by kernel_rfl) rfl rfl ?_)
 intro w hS
 refine EL.done (by kernel_rfl) ?_
 refine EQ.code ?_
 refine EW.ret (by kernel_rfl) ?_
 have hS := St.fr hS 0 rfl
 obtain rfl := Option.some.inj H
 exact EQ.leaveC hS 0 rfl 6 36 0 12 (.agg #[.int .i32 a4, .int .i64 a5, .int .i64 (IntKind.i64.wrap (a1 + 1)), .slice c1 c0.length c2, .int .i32 a6, .int .i32 a7, .int .i32 a8, .int .i32 a9, .int .i64 b0, .int .i64 b2, .int .u32 b3, .int .i64 b4]) (by kernel_rfl) (by kernel_rfl) (by kernel_rfl) ⟨_, rfl, c1, c2, rfl, (hS.re [] [0, 0] rfl (sub_cons 0 rfl (sub_tail (sub_tail (sub_tail (sub_self))))))⟩

/-! ### confidant/park.copied: function 44 -/
def park_copied.f (K : Nat) (b0 : Int) (b2 : Int) (a1 : Int) (a4 : List Int) (b3 : Int) (b4 : Int) (b5 : Int) (b6 : Int) (b7 : Int) (b8 : Int) (b9 : Int) (c0 : Int) (a2 : Int) : Option S60 := b1 (task_Drop.f K b0 b2 a1 a4 b3 b4 b5 b6 b7 b8 b9 c0 0 ([] : List Int)) fun (a0 : S36) => (some (⟨(⟨a0.f0, a0.f1, a1, a0.f3, (⟨a0.f4.f0, a0.f4.f1, a0.f4.f2, a0.f4.f3⟩ : S33), a0.f5, a0.f6, a0.f7, a0.f8⟩ : S36), a2⟩ : S60))
set_option maxRecDepth 100000 in
theorem park_copied.calls {K : Nat} {b0 : Int} {b2 : Int} {a1 : Int} {a4 : List Int} {b3 : Int} {b4 : Int} {b5 : Int} {b6 : Int} {b7 : Int} {b8 : Int} {b9 : Int} {c0 : Int} {a2 : Int} {a8 : Option Addr} {a9 : Nat} {a3 : S60} {B w : World} {os : List Ass} {rs : List Ro} (H : park_copied.f K b0 b2 a1 a4 b3 b4 b5 b6 b7 b8 b9 c0 a2 = some a3) (hS : St B w (os) (Ro.sl (Kd.int .i32) a8 a9 a4 :: rs)) :
  Calls Try.prog 44 [.agg #[.int .i32 b0, .int .i64 b2, .int .i64 a1, .slice a8 a4.length a9, .int .i32 b3, .int .i32 b4, .int .i32 b5, .int .i32 b6, .int .i64 b7, .int .i64 b8, .int .u32 b9, .int .i64 c0, .int .i32 a2]].toArray w (fun en w' => ∃ v, en = .returned v ∧ ∃ c2 : Option Addr, ∃ c3 : Nat, v = .agg #[.int .i32 a3.f0.f0, .int .i64 a3.f0.f1, .int .i64 a3.f0.f2, .slice c2 a3.f0.f3.length c3, .int .i32 a3.f0.f4.f0, .int .i32 a3.f0.f4.f1, .int .i32 a3.f0.f4.f2, .int .i32 a3.f0.f4.f3, .int .i64 a3.f0.f5, .int .i64 a3.f0.f6, .int .u32 a3.f0.f7, .int .i64 a3.f0.f8, .int .i32 a3.f1] ∧ St B w' (os) (Ro.sl (Kd.int .i32) c2 c3 a3.f0.f3 :: Ro.sl (Kd.int .i32) a8 a9 a4 :: rs)) := by
 unfold park_copied.f at H
 refine calls_of_EW (args := [.agg #[.int .i32 b0, .int .i64 b2, .int .i64 a1, .slice a8 a4.length a9, .int .i32 b3, .int .i32 b4, .int .i32 b5, .int .i32 b6, .int .i64 b7, .int .i64 b8, .int .u32 b9, .int .i64 c0, .int .i32 a2]]) (c := Cd44) 15 Try.func44 (by kernel_rfl) (by kernel_rfl) (by kernel_rfl) ?_
 refine EW.seq (x := Cd44.l) (y := Cd44.r) (by kernel_rfl) ?_
 refine EW.region (id := 0) (ops := Cd44.l.ops) (by kernel_rfl) ?_
 refine EL.of (EO.box hS 60 (.agg #[.int .i32 b0, .int .i64 b2, .int .i64 a1, .slice a8 a4.length a9, .int .i32 b3, .int .i32 b4, .int .i32 b5, .int .i32 b6, .int .i64 b7, .int .i64 b8, .int .u32 b9, .int .i64 c0, .int .i32 a2]) [.int .i32 b0, .int .i64 b2, .int .i64 a1, .slice a8 a4.length a9, .int .i32 b3, .int .i32 b4, .int .i32 b5, .int .i32 b6, .int .i64 b7, .int .i64 b8, .int .u32 b9, .int .i64 c0, .int .i32 a2] 1 (by kernel_rfl) (by kernel_rfl) (by kernel_rfl) (by first | rfl | kernel_rfl) ?_)
 intro a7 w hS
 refine EL.of (EO.alloc hS 60 (.agg #[.int .i32 0, .int .i64 0, .int .i64 0, .slice none ([] : List Int).length 0, .int .i32 0, .int .i32 0, .int .i32 0, .int .i32 0, .int .i64 0, .int .i64 0, .int .u32 0, .int .i64 0, .int .i32 0]) [.int .i32 0, .int .i64 0, .int .i64 0, .slice none ([] : List Int).length 0, .int .i32 0, .int .i32 0, .int .i32 0, .int .i32 0, .int .i64 0, .int .i64 0, .int .u32 0, .int .i64 0, .int .i32 0] 2 (by kernel_rfl) (by kernel_rfl) (by kernel_rfl) (by kernel_rfl) (by first | rfl | kernel_rfl) ?_)
 intro c1 w hS
 refine EL.done (by kernel_rfl) ?_
 refine EQ.code ?_
 refine EW.seq (x := Cd44.r.l) (y := Cd44.r.r) (by kernel_rfl) ?_
 refine EW.region (id := 1) (ops := Cd44.r.l.ops) (by kernel_rfl) ?_
 refine EL.quick 2 [1, 2, 5] [(1, .pointer (some ⟨a7, 0, none⟩)), (2, .pointer (some ⟨c1, 0, none⟩)), (5, .pointer (some ⟨a7, 2, none⟩))] (by kernel_rfl) ?_
 refine EL.of (EO.Y (YO.loadBox hS 1 rfl 3 2 1 (.int .i64 a1) 6 (by kernel_rfl) (by kernel_rfl) (by kernel_rfl) (by kernel_rfl)) ?_)
 refine EL.quick 1 [1, 2, 3] [(1, .pointer (some ⟨a7, 0, none⟩)), (2, .pointer (some ⟨c1, 0, none⟩)), (3, .int .i64 a1)] (by kernel_rfl) ?_
 refine EL.done (by kernel_rfl) ?_
 refine EQ.code ?_
 refine EW.seq (x := Cd44.r.r.l) (y := Cd44.r.r.r) (by kernel_rfl) ?_
 refine EW.region (id := 2) (ops := Cd44.r.r.l.ops) (by kernel_rfl) ?_
 refine EL.quick 1 [1, 2, 3, 7] [(1, .pointer (some ⟨a7, 0, none⟩)), (2, .pointer (some ⟨c1, 0, none⟩)), (3, .int .i64 a1), (7, .pointer (some ⟨a7, 0, none⟩))] (by kernel_rfl) ?_
 refine EL.of (EO.Y (YO.loadBox hS 1 rfl 36 0 12 (.agg #[.int .i32 b0, .int .i64 b2, .int .i64 a1, .slice a8 a4.length a9, .int .i32 b3, .int .i32 b4, .int .i32 b5, .int .i32 b6, .int .i64 b7, .int .i64 b8, .int .u32 b9, .int .i64 c0]) 8 (by kernel_rfl) (by kernel_rfl) (by kernel_rfl) (by kernel_rfl)) ?_)
 have hS := St.nilR hS (Kd.int .i32)
 have hS : St B _ (Ass.box 60 c1 [.int .i32 0, .int .i64 0, .int .i64 0, .slice none ([] : List Int).length 0, .int .i32 0, .int .i32 0, .int .i32 0, .int .i32 0, .int .i64 0, .int .i64 0, .int .u32 0, .int .i64 0, .int .i32 0] :: Ass.box 60 a7 [.int .i32 b0, .int .i64 b2, .int .i64 a1, .slice a8 a4.length a9, .int .i32 b3, .int .i32 b4, .int .i32 b5, .int .i32 b6, .int .i64 b7, .int .i64 b8, .int .u32 b9, .int .i64 c0, .int .i32 a2] :: os) (Ro.sl (Kd.int .i32) a8 a9 a4 :: Ro.sl (Kd.int .i32) none 0 ([] : List Int) :: Ro.sl (Kd.int .i32) none 0 ([] : List Int) :: Ro.sl (Kd.int .i32) a8 a9 a4 :: rs) := hS.re [] [] rfl (sub_cons 1 rfl (sub_cons 0 rfl sub_self))
 obtain ⟨a0, c4, H⟩ := b1_out H
 refine EL.of (EO.callD 65 [.agg #[.int .i32 b0, .int .i64 b2, .int .i64 a1, .slice a8 a4.length a9, .int .i32 b3, .int .i32 b4, .int .i32 b5, .int .i32 b6, .int .i64 b7, .int .i64 b8, .int .u32 b9, .int .i64 c0], .int .i64 0, .slice none ([] : List Int).length 0] _ 9 (by kernel_rfl) (by kernel_rfl) (by kernel_rfl) (task_Drop.calls c4 hS) ?_)
 rintro v w ⟨a5, a6, rfl, hS⟩
 refine EL.quick 1 [1, 2, 3, 9, 10] [(1, .pointer (some ⟨a7, 0, none⟩)), (2, .pointer (some ⟨c1, 0, none⟩)), (3, .int .i64 a1), (9, .agg #[.int .i32 a0.f0, .int .i64 a0.f1, .int .i64 a0.f2, .slice a5 a0.f3.length a6, .int .i32 a0.f4.f0, .int .i32 a0.f4.f1, .int .i32 a0.f4.f2, .int .i32 a0.f4.f3, .int .i64 a0.f5, .int .i64 a0.f6, .int .u32 a0.f7, .int .i64 a0.f8]), (10, .pointer (some ⟨a7, 0, none⟩))] (by kernel_rfl) ?_
 refine EL.of (EO.storeBox (os' := Ass.box 60 c1 [.int .i32 0, .int .i64 0, .int .i64 0, .slice none ([] : List Int).length 0, .int .i32 0, .int .i32 0, .int .i32 0, .int .i32 0, .int .i64 0, .int .i64 0, .int .u32 0, .int .i64 0, .int .i32 0] :: Ass.box 60 a7 [.int .i32 a0.f0, .int .i64 a0.f1, .int .i64 a0.f2, .slice a5 a0.f3.length a6, .int .i32 a0.f4.f0, .int .i32 a0.f4.f1, .int .i32 a0.f4.f2, .int .i32 a0.f4.f3, .int .i64 a0.f5, .int .i64 a0.f6, .int .u32 a0.f7, .int .i64 a0.f8, .int .i32 a2] :: os) hS 1 rfl 36 0 (.agg #[.int .i32 a0.f0, .int .i64 a0.f1, .int .i64 a0.f2, .slice a5 a0.f3.length a6, .int .i32 a0.f4.f0, .int .i32 a0.f4.f1, .int .i32 a0.f4.f2, .int .i32 a0.f4.f3, .int .i64 a0.f5, .int .i64 a0.f6, .int .u32 a0.f7, .int .i64 a0.f8]) [.int .i32 a0.f0, .int .i64 a0.f1, .int .i64 a0.f2, .slice a5 a0.f3.length a6, .int .i32 a0.f4.f0, .int .i32 a0.f4.f1, .int .i32 a0.f4.f2, .int .i32 a0.f4.f3, .int .i64 a0.f5, .int .i64 a0.f6, .int .u32 a0.f7, .int .i64 a0.f8, .int .i32 a2] (by kernel_rfl) (by kernel_rfl) (by kernel_rfl) (by kernel_rfl) (by kernel_rfl) (by kernel_rfl) rfl rfl ?_)
 intro w hS
 refine EL.done (by kernel_rfl) ?_
 refine EQ.code ?_
 refine EW.seq (x := Cd44.r.r.r.l) (y := Cd44.r.r.r.r) (by kernel_rfl) ?_
 refine EW.region (id := 3) (ops := Cd44.r.r.r.l.ops) (by kernel_rfl) ?_
 refine EL.quick 3 [1, 2, 11, 13] [(1, .pointer (some ⟨a7, 0, none⟩)), (2, .pointer (some ⟨c1, 0, none⟩)), (11, .int .i64 a1), (13, .pointer (some ⟨a7, 2, none⟩))] (by kernel_rfl) ?_
 refine EL.of (EO.storeBox (os' := Ass.box 60 c1 [.int .i32 0, .int .i64 0, .int .i64 0, .slice none ([] : List Int).length 0, .int .i32 0, .int .i32 0, .int .i32 0, .int .i32 0, .int .i64 0, .int .i64 0, .int .u32 0, .int .i64 0, .int .i32 0] :: Ass.box 60 a7 [.int .i32 a0.f0, .int .i64 a0.f1, .int .i64 a1, .slice a5 a0.f3.length a6, .int .i32 a0.f4.f0, .int .i32 a0.f4.f1, .int .i32 a0.f4.f2, .int .i32 a0.f4.f3, .int .i64 a0.f5, .int .i64 a0.f6, .int .u32 a0.f7, .int .i64 a0.f8, .int .i32 a2] :: os) hS 1 rfl 3 2 (.int .i64 a1) [.int .i32 a0.f0, .int .i64 a0.f1, .int .i64 a1, .slice a5 a0.f3.length a6, .int .i32 a0.f4.f0, .int .i32 a0.f4.f1, .int .i32 a0.f4.f2, .int .i32 a0.f4.f3, .int .i64 a0.f5, .int .i64 a0.f6, .int .u32 a0.f7, .int .i64 a0.f8, .int .i32 a2] (by kernel_rfl) (by kernel_rfl) (by kernel_rfl) (by kernel_rfl) (by kernel_rfl) (by kernel_rfl) rfl rfl ?_)
 intro w hS
 refine EL.done (by kernel_rfl) ?_
 refine EQ.code ?_
 refine EW.seq (x := Cd44.r.r.r.r.l) (y := Cd44.r.r.r.r.r) (by kernel_rfl) ?_
 refine EW.region (id := 4) (ops := Cd44.r.r.r.r.l.ops) (by kernel_rfl) ?_
 refine EL.of (EO.Y (YO.loadBox hS 1 rfl 60 0 13 (.agg #[.int .i32 a0.f0, .int .i64 a0.f1, .int .i64 a1, .slice a5 a0.f3.length a6, .int .i32 a0.f4.f0, .int .i32 a0.f4.f1, .int .i32 a0.f4.f2, .int .i32 a0.f4.f3, .int .i64 a0.f5, .int .i64 a0.f6, .int .u32 a0.f7, .int .i64 a0.f8, .int .i32 a2]) 14 (by kernel_rfl) (by kernel_rfl) (by kernel_rfl) (by kernel_rfl)) ?_)
 refine EL.of (EO.storeBox (os' := Ass.box 60 c1 [.int .i32 a0.f0, .int .i64 a0.f1, .int .i64 a1, .slice a5 a0.f3.length a6, .int .i32 a0.f4.f0, .int .i32 a0.f4.f1, .int .i32 a0.f4.f2, .int .i32 a0.f4.f3, .int .i64 a0.f5, .int .i64 a0.f6, .int .u32 a0.f7, .int .i64 a0.f8, .int .i32 a2] :: Ass.box 60 a7 [.int .i32 a0.f0, .int .i64 a0.f1, .int .i64 a1, .slice a5 a0.f3.length a6, .int .i32 a0.f4.f0, .int .i32 a0.f4.f1, .int .i32 a0.f4.f2, .int .i32 a0.f4.f3, .int .i64 a0.f5, .int .i64 a0.f6, .int .u32 a0.f7, .int .i64 a0.f8, .int .i32 a2] :: os) hS 0 rfl 60 0 (.agg #[.int .i32 a0.f0, .int .i64 a0.f1, .int .i64 a1, .slice a5 a0.f3.length a6, .int .i32 a0.f4.f0, .int .i32 a0.f4.f1, .int .i32 a0.f4.f2, .int .i32 a0.f4.f3, .int .i64 a0.f5, .int .i64 a0.f6, .int .u32 a0.f7, .int .i64 a0.f8, .int .i32 a2]) [.int .i32 a0.f0, .int .i64 a0.f1, .int .i64 a1, .slice a5 a0.f3.length a6, .int .i32 a0.f4.f0, .int .i32 a0.f4.f1, .int .i32 a0.f4.f2, .int .i32 a0.f4.f3, .int .i64 a0.f5, .int .i64 a0.f6, .int .u32 a0.f7, .int .i64 a0.f8, .int .i32 a2] (by kernel_rfl) (by kernel_rfl) (by kernel_rfl) (by kernel_rfl) (by kernel_rfl) (by kernel_rfl) rfl rfl ?_)
 intro w hS
 refine EL.done (by kernel_rfl) ?_
 refine EQ.code ?_
 refine EW.ret (by kernel_rfl) ?_
 obtain rfl := Option.some.inj H
 exact EQ.leaveC hS 0 rfl 2 60 0 13 (.agg #[.int .i32 a0.f0, .int .i64 a0.f1, .int .i64 a1, .slice a5 a0.f3.length a6, .int .i32 a0.f4.f0, .int .i32 a0.f4.f1, .int .i32 a0.f4.f2, .int .i32 a0.f4.f3, .int .i64 a0.f5, .int .i64 a0.f6, .int .u32 a0.f7, .int .i64 a0.f8, .int .i32 a2]) (by kernel_rfl) (by kernel_rfl) (by kernel_rfl) ⟨_, rfl, a5, a6, rfl, (hS.re [] [0, 0] rfl (sub_cons 0 rfl (sub_tail (sub_tail (sub_tail (sub_tail (sub_self)))))))⟩

end Go.Proofs.Ytipaaapbapijhaa.G
