import Derived.Test.YtjfnejcanlkknaaProg
import Derived.Test.YtjfnejcanlkknaaFwEq
import Derived.Test.YtjfnejcanlkknaaFwOpen
import Derived.Test.YtjfnejcanlkknaaG0
namespace Go.Proofs.Ytjfnejcanlkknaa.G
open Go Go.Fw Go.RowKit Go.Proofs
set_option linter.unusedVariables false
set_option linter.unusedSimpArgs false

/-! ### confidant/ident.Of: function 67 -/
def ident_Of.f (K : Nat) (a984 : Int) (a985 : Int) : Option (Int × Bool) := lt (fun (x1035 : Bool) => (if x1035 = true then (some (0, false)) else (lt (IntKind.i32.wrap (IntKind.i64.wrap ((IntKind.i64.wrap (a984 * 65536)) + a985))) fun y1041 => (some (y1041, true))))) fun j1036 => (if a984 < 0 then (j1036 true) else (if a984 ≥ 16 then (j1036 true) else (if a985 < 0 then (j1036 true) else (j1036 (decide (a985 ≥ 65536))))))
set_option maxRecDepth 100000 in
theorem ident_Of.calls {K : Nat} {a984 : Int} {a985 : Int} {x1013 : Int} {x1014 : Bool} {B w : World} {os : List Ass} {rs : List Ro} (H : ident_Of.f K a984 a985 = some (x1013, x1014)) (hS : St B w (os) (rs)) :
    Calls Try.prog 67 [.int .i64 a984, .int .i64 a985].toArray w (fun en w' => ∃ v, en = .returned v ∧ v = .tuple #[.int .i32 x1013, .bool (x1014)] ∧ St B w' (os) (rs)) := by
  unfold ident_Of.f at H
  refine calls_of_EW (args := [.int .i64 a984, .int .i64 a985]) (c := Cd67) 25 Try.func67 (by kernel_rfl) (by kernel_rfl) (by kernel_rfl) ?_
  refine EW.seq (x := Cd67.l) (y := Cd67.r) (by kernel_rfl) ?_
  refine EW.region (id := 0) (ops := Cd67.l.ops) (by kernel_rfl) ?_
  refine EL.quick 2 [0, 1] [(0, .int .i64 a984), (1, .int .i64 a985)] (by kernel_rfl) ?_
  refine EL.done (by kernel_rfl) ?_
  refine EQ.code ?_
  refine EW.seq (x := Cd67.r.l) (y := Cd67.r.r) (by kernel_rfl) ?_
  obtain ⟨j1036, hj1036, H⟩ := lt_out H
  refine EW.cut (x := Cd67.r.l.l) (y := Cd67.r.l.r) (fun a w => ∃ x1035 : Bool, Sat 25 [(0, .int .i64 a984), (1, .int .i64 a985), (19, .bool (x1035))] a ∧ St B w (os) (rs) ∧ j1036 x1035 = some (x1013, x1014)) (by kernel_rfl) ?_ (fun a w hI => ?_)
  · refine EW.region (id := 1) (ops := Cd67.r.l.l.ops) (by kernel_rfl) ?_
    refine EL.quick 3 [0, 1, 8] [(0, .int .i64 a984), (1, .int .i64 a985), (8, .bool (decide (a984 < 0)))] (by kernel_rfl) ?_
    by_cases h1037 : a984 < 0
    · rw [if_pos h1037] at H
      refine EL.keep [0, 1, 8] [(0, .int .i64 a984), (1, .int .i64 a985), (8, .bool (decide (a984 < 0)))] (by kernel_rfl) ?_
      refine EL.as' [(0, .int .i64 a984), (1, .int .i64 a985), (8, .bool (true))] (by simp only [dec_t h1037, Bool.not_true, Bool.not_false]) ?_
      refine EL.quick 11 [0, 1, 19] [(0, .int .i64 a984), (1, .int .i64 a985), (19, .bool (true))] (by kernel_rfl) ?_
      refine EL.done (by kernel_rfl) ?_
      refine EQ.to ?_
      refine EQ.keep [0, 1, 19] [(0, .int .i64 a984), (1, .int .i64 a985), (19, .bool (true))] (by kernel_rfl) ?_
      exact fun a ha => ⟨true, ha, (hS.re [] [] rfl (sub_self)), H⟩
    · rw [if_neg h1037] at H
      refine EL.keep [0, 1, 8] [(0, .int .i64 a984), (1, .int .i64 a985), (8, .bool (decide (a984 < 0)))] (by kernel_rfl) ?_
      refine EL.as' [(0, .int .i64 a984), (1, .int .i64 a985), (8, .bool (false))] (by simp only [dec_f h1037, Bool.not_true, Bool.not_false]) ?_
      refine EL.quick 4 [0, 1, 12] [(0, .int .i64 a984), (1, .int .i64 a985), (12, .bool (decide (a984 ≥ 16)))] (by kernel_rfl) ?_
      by_cases h1038 : a984 ≥ 16
      · rw [if_pos h1038] at H
        refine EL.keep [0, 1, 12] [(0, .int .i64 a984), (1, .int .i64 a985), (12, .bool (decide (a984 ≥ 16)))] (by kernel_rfl) ?_
        refine EL.as' [(0, .int .i64 a984), (1, .int .i64 a985), (12, .bool (true))] (by simp only [dec_t h1038, Bool.not_true, Bool.not_false]) ?_
        refine EL.quick 7 [0, 1, 19] [(0, .int .i64 a984), (1, .int .i64 a985), (19, .bool (true))] (by kernel_rfl) ?_
        refine EL.done (by kernel_rfl) ?_
        refine EQ.to ?_
        refine EQ.keep [0, 1, 19] [(0, .int .i64 a984), (1, .int .i64 a985), (19, .bool (true))] (by kernel_rfl) ?_
        exact fun a ha => ⟨true, ha, (hS.re [] [] rfl (sub_self)), H⟩
      · rw [if_neg h1038] at H
        refine EL.keep [0, 1, 12] [(0, .int .i64 a984), (1, .int .i64 a985), (12, .bool (decide (a984 ≥ 16)))] (by kernel_rfl) ?_
        refine EL.as' [(0, .int .i64 a984), (1, .int .i64 a985), (12, .bool (false))] (by simp only [dec_f h1038, Bool.not_true, Bool.not_false]) ?_
        refine EL.quick 4 [0, 1, 16] [(0, .int .i64 a984), (1, .int .i64 a985), (16, .bool (decide (a985 < 0)))] (by kernel_rfl) ?_
        by_cases h1039 : a985 < 0
        · rw [if_pos h1039] at H
          refine EL.keep [0, 1, 16] [(0, .int .i64 a984), (1, .int .i64 a985), (16, .bool (decide (a985 < 0)))] (by kernel_rfl) ?_
          refine EL.as' [(0, .int .i64 a984), (1, .int .i64 a985), (16, .bool (true))] (by simp only [dec_t h1039, Bool.not_true, Bool.not_false]) ?_
          refine EL.quick 3 [0, 1, 19] [(0, .int .i64 a984), (1, .int .i64 a985), (19, .bool (true))] (by kernel_rfl) ?_
          refine EL.done (by kernel_rfl) ?_
          refine EQ.to ?_
          refine EQ.keep [0, 1, 19] [(0, .int .i64 a984), (1, .int .i64 a985), (19, .bool (true))] (by kernel_rfl) ?_
          exact fun a ha => ⟨true, ha, (hS.re [] [] rfl (sub_self)), H⟩
        · rw [if_neg h1039] at H
          refine EL.keep [0, 1, 16] [(0, .int .i64 a984), (1, .int .i64 a985), (16, .bool (decide (a985 < 0)))] (by kernel_rfl) ?_
          refine EL.as' [(0, .int .i64 a984), (1, .int .i64 a985), (16, .bool (false))] (by simp only [dec_f h1039, Bool.not_true, Bool.not_false]) ?_
          refine EL.quick 3 [0, 1, 19] [(0, .int .i64 a984), (1, .int .i64 a985), (19, .bool (decide (a985 ≥ 65536)))] (by kernel_rfl) ?_
          refine EL.done (by kernel_rfl) ?_
          refine EQ.to ?_
          refine EQ.keep [0, 1, 19] [(0, .int .i64 a984), (1, .int .i64 a985), (19, .bool (decide (a985 ≥ 65536)))] (by kernel_rfl) ?_
          exact fun a ha => ⟨decide (a985 ≥ 65536), ha, (hS.re [] [] rfl (sub_self)), H⟩
  · obtain ⟨x1035, ha, hS, H⟩ := hI
    rw [hj1036] at H
    (try dsimp only at H)
    refine EW.at ?_ a ha
    clear ha a
    refine EW.condP' (o := (.tmp 19)) (x := Cd67.r.l.r.l) (y := Cd67.r.l.r.r) (x1035) (by kernel_rfl) (by kernel_rfl) (fun h1040 => ?_) (fun h1040 => ?_)
    · rw [if_pos h1040] at H
      refine EW.seq (x := Cd67.r.l.r.l.l) (y := Cd67.r.l.r.l.r) (by kernel_rfl) ?_
      refine EW.region (id := 2) (ops := Cd67.r.l.r.l.l.ops) (by kernel_rfl) ?_
      refine EL.quick 2 [4, 5] [(4, .int .i32 0), (5, .bool (false))] (by kernel_rfl) ?_
      refine EL.done (by kernel_rfl) ?_
      refine EQ.code ?_
      refine EW.ret (by kernel_rfl) ?_
      refine EQ.ret ?_
      simp only [Option.some.injEq, Prod.mk.injEq] at H
      obtain ⟨rfl, rfl⟩ := H
      exact EQ.leave (.tuple #[.int .i32 0, .bool (false)]) (by kernel_rfl) ⟨_, rfl, rfl, (hS.re [] [] rfl (sub_self))⟩
    · rw [if_neg h1040] at H
      refine EW.skip (by kernel_rfl) ?_
      refine EQ.code ?_
      refine EW.seq (x := Cd67.r.r.l) (y := Cd67.r.r.r) (by kernel_rfl) ?_
      refine EW.region (id := 3) (ops := Cd67.r.r.l.ops) (by kernel_rfl) ?_
      refine EL.quick 7 [4, 5] [(4, .int .i32 (IntKind.i32.wrap (IntKind.i64.wrap ((IntKind.i64.wrap (a984 * 65536)) + a985)))), (5, .bool (true))] (by kernel_rfl) ?_
      obtain ⟨y1041, hy1041, H⟩ := lt_out H
      refine EL.keep [4, 5] [(4, .int .i32 (IntKind.i32.wrap (IntKind.i64.wrap ((IntKind.i64.wrap (a984 * 65536)) + a985)))), (5, .bool (true))] (by kernel_rfl) ?_
      refine EL.as' [(4, .int .i32 y1041), (5, .bool (true))] (by subst hy1041; rfl) ?_
      refine EL.done (by kernel_rfl) ?_
      refine EQ.code ?_
      refine EW.ret (by kernel_rfl) ?_
      simp only [Option.some.injEq, Prod.mk.injEq] at H
      obtain ⟨rfl, rfl⟩ := H
      exact EQ.leave (.tuple #[.int .i32 y1041, .bool (true)]) (by kernel_rfl) ⟨_, rfl, rfl, (hS.re [] [] rfl (sub_self))⟩

/-! ### (*confidant/future.Futures).Make: function 46 -/
def future_Futures_Make.f (K : Nat) (l907 : List (List S75)) (l911 : List Int) (a915 : Int) (a916 : Int) : Option (List (List S75) × Int × Bool) := lt (fun (x1122 : Bool) => (if x1122 = true then (some (l907, 0, false)) else (if 0 ≤ a915 then (if a915 < (l907.length : Int) then (b2 (ident_Of.f K a915 ((l907.getD a915.toNat []).length : Int)) fun (t1151 : Int) (t1152 : Bool) => (lt ([(⟨a916, 0, 0, 0⟩ : S75)] : List S75) fun l1162 => (if ((l907.getD a915.toNat []).length + l1162.length) * 32 ≤ 140737488355328 then (lt ((l907.getD a915.toNat []) ++ l1162) fun l1164 => (lt (l907.set a915.toNat l1164) fun l1167 => (some (l1167, t1151, t1152)))) else none))) else none) else none))) fun j1123 => (if a915 < 0 then (j1123 true) else (if a915 ≥ (l907.length : Int) then (j1123 true) else (if 0 ≤ a915 then (if a915 < (l907.length : Int) then (if a915 < (l911.length : Int) then (j1123 (decide (((l907.getD a915.toNat []).length : Int) ≥ (l911.getD a915.toNat 0)))) else none) else none) else none)))
set_option maxRecDepth 100000 in
theorem future_Futures_Make.calls {K : Nat} {l907 : List (List S75)} {l911 : List Int} {a915 : Int} {a916 : Int} {g906 : Nat} {A908 : Option Addr} {C909 : Nat} {A912 : Option Addr} {C913 : Nat} {x1067 : List (List S75)} {x1070 : Int} {x1071 : Bool} {B w : World} {os : List Ass} {rs : List Ro} (H : future_Futures_Make.f K l907 l911 a915 a916 = some (x1067, x1070, x1071)) (hS : St B w (Ass.box 99 g906 [.slice A908 l907.length C909, .slice A912 l911.length C913] :: Ass.deep 87 75 kS75 A908 C909 l907 :: Ass.own 3 (Kd.int .i64) A912 C913 l911 :: os) (rs)) :
    Calls Try.prog 46 [.pointer (some ⟨g906, 0, none⟩), .int .i64 a915, .int .i64 a916].toArray w (fun en w' => ∃ v, en = .returned v ∧ ∃ A1068 : Option Addr, ∃ C1069 : Nat, v = .tuple #[.int .i32 x1070, .bool (x1071)] ∧ St B w' (Ass.box 99 g906 [.slice A1068 x1067.length C1069, .slice A912 l911.length C913] :: Ass.deep 87 75 kS75 A1068 C1069 x1067 :: Ass.own 3 (Kd.int .i64) A912 C913 l911 :: os) (rs)) := by
  unfold future_Futures_Make.f at H
  refine calls_of_EW (args := [.pointer (some ⟨g906, 0, none⟩), .int .i64 a915, .int .i64 a916]) (c := Cd46) 71 Try.func46 (by kernel_rfl) (by kernel_rfl) (by kernel_rfl) ?_
  refine EW.seq (x := Cd46.l) (y := Cd46.r) (by kernel_rfl) ?_
  refine EW.region (id := 0) (ops := Cd46.l.ops) (by kernel_rfl) ?_
  refine EL.quick 2 [0, 1, 2] [(0, .pointer (some ⟨g906, 0, none⟩)), (1, .int .i64 a915), (2, .int .i64 a916)] (by kernel_rfl) ?_
  refine EL.done (by kernel_rfl) ?_
  refine EQ.code ?_
  refine EW.seq (x := Cd46.r.l) (y := Cd46.r.r) (by kernel_rfl) ?_
  obtain ⟨j1123, hj1123, H⟩ := lt_out H
  refine EW.cut (x := Cd46.r.l.l) (y := Cd46.r.l.r) (fun a w => ∃ x1122 : Bool, Sat 71 [(0, .pointer (some ⟨g906, 0, none⟩)), (1, .int .i64 a915), (2, .int .i64 a916), (38, .bool (x1122))] a ∧ St B w (Ass.box 99 g906 [.slice A908 l907.length C909, .slice A912 l911.length C913] :: Ass.deep 87 75 kS75 A908 C909 l907 :: Ass.own 3 (Kd.int .i64) A912 C913 l911 :: os) (rs) ∧ j1123 x1122 = some (x1067, x1070, x1071)) (by kernel_rfl) ?_ (fun a w hI => ?_)
  · by_cases h1124 : a915 < 0
    · rw [if_pos h1124] at H
      have hS := hS.drew
      refine EW.draw (B := B) (id := 1) (ops := Cd46.r.l.l.ops) [Ass.box 99 g906 [.slice A908 l907.length C909, .slice A912 l911.length C913], Ass.deep 87 75 kS75 A908 C909 l907, Ass.own 3 (Kd.int .i64) A912 C913 l911] [] (by kernel_rfl) (by kernel_rfl) ?_
      have hN : Region.noSelect Cd46.r.l.l.ops = true := (by kernel_rfl)
      have hF : freeAll Cd46.r.l.l.ops = true := (by kernel_rfl)
      have hC : Core B [Ass.box 99 g906 [.slice A908 l907.length C909, .slice A912 l911.length C913], Ass.deep 87 75 kS75 A908 C909 l907, Ass.own 3 (Kd.int .i64) A912 C913 l911] [] _ := ⟨_, _, hS⟩
      refine ED.quick hN hF hC [0, 1, 2] [0, 1, 2, 12] 26 [(0, .pointer (some ⟨g906, 0, none⟩)), (1, .int .i64 a915), (2, .int .i64 a916), (12, .bool (decide (a915 < 0)))] #[true, true, true, false, false, false, false, false, false, false, false, false, false, false, false, false, false, false, false, false, false, false, false, false, false, false, false, false, false] (by kernel_rfl) (by kernel_rfl) ?_
      refine ED.keep [0, 1, 2, 12] [(0, .pointer (some ⟨g906, 0, none⟩)), (1, .int .i64 a915), (2, .int .i64 a916), (12, .bool (decide (a915 < 0)))] (by kernel_rfl) ?_
      refine ED.as' [(0, .pointer (some ⟨g906, 0, none⟩)), (1, .int .i64 a915), (2, .int .i64 a916), (12, .bool (true))] (by simp only [dec_t h1124, Bool.not_true, Bool.not_false]) ?_
      refine ED.quick hN hF hC [3, 4, 5, 6, 7, 8, 9, 10, 11, 12, 13, 14, 15, 16, 17, 18, 19, 20, 21, 22, 23, 24, 25, 26, 27, 28] [0, 1, 2, 38] 0 [(0, .pointer (some ⟨g906, 0, none⟩)), (1, .int .i64 a915), (2, .int .i64 a916), (38, .bool (true))] #[true, true, true, true, true, true, true, true, true, true, true, true, true, true, true, true, true, true, true, true, true, true, true, true, true, true, true, true, true] (by kernel_rfl) (by kernel_rfl) ?_
      refine ED.done (by kernel_rfl) ?_
      refine EQ.to ?_
      refine EQ.keep [0, 1, 2, 38] [(0, .pointer (some ⟨g906, 0, none⟩)), (1, .int .i64 a915), (2, .int .i64 a916), (38, .bool (true))] (by kernel_rfl) ?_
      exact fun a ha => ⟨true, ha, (hS.re [2, 2, 2] [] rfl (sub_self)), H⟩
    · rw [if_neg h1124] at H
      by_cases h1125 : a915 ≥ (l907.length : Int)
      · rw [if_pos h1125] at H
        have hS := hS.drew
        refine EW.draw (B := B) (id := 1) (ops := Cd46.r.l.l.ops) [Ass.box 99 g906 [.slice A908 l907.length C909, .slice A912 l911.length C913], Ass.deep 87 75 kS75 A908 C909 l907, Ass.own 3 (Kd.int .i64) A912 C913 l911] [] (by kernel_rfl) (by kernel_rfl) ?_
        have hN : Region.noSelect Cd46.r.l.l.ops = true := (by kernel_rfl)
        have hF : freeAll Cd46.r.l.l.ops = true := (by kernel_rfl)
        have hC : Core B [Ass.box 99 g906 [.slice A908 l907.length C909, .slice A912 l911.length C913], Ass.deep 87 75 kS75 A908 C909 l907, Ass.own 3 (Kd.int .i64) A912 C913 l911] [] _ := ⟨_, _, hS⟩
        refine ED.quick hN hF hC [0, 1, 2] [0, 1, 2, 12] 26 [(0, .pointer (some ⟨g906, 0, none⟩)), (1, .int .i64 a915), (2, .int .i64 a916), (12, .bool (decide (a915 < 0)))] #[true, true, true, false, false, false, false, false, false, false, false, false, false, false, false, false, false, false, false, false, false, false, false, false, false, false, false, false, false] (by kernel_rfl) (by kernel_rfl) ?_
        refine ED.keep [0, 1, 2, 12] [(0, .pointer (some ⟨g906, 0, none⟩)), (1, .int .i64 a915), (2, .int .i64 a916), (12, .bool (decide (a915 < 0)))] (by kernel_rfl) ?_
        refine ED.as' [(0, .pointer (some ⟨g906, 0, none⟩)), (1, .int .i64 a915), (2, .int .i64 a916), (12, .bool (false))] (by simp only [dec_f h1124, Bool.not_true, Bool.not_false]) ?_
        refine ED.quick hN hF hC [3, 4, 5, 6] [0, 1, 2, 12, 13, 16] 22 [(0, .pointer (some ⟨g906, 0, none⟩)), (1, .int .i64 a915), (2, .int .i64 a916), (12, .bool (false)), (13, .int .i64 a915), (16, .pointer (some ⟨g906, 0, none⟩))] #[true, true, true, true, true, true, true, false, false, false, false, false, false, false, false, false, false, false, false, false, false, false, false, false, false, false, false, false, false] (by kernel_rfl) (by kernel_rfl) ?_
        refine ED.Y hN hF hC 7 21 #[true, true, true, true, true, true, true, true, false, false, false, false, false, false, false, false, false, false, false, false, false, false, false, false, false, false, false, false, false] (by kernel_rfl) (by kernel_rfl) rfl (fun _ _ _ hS => YO.loadBox hS 0 rfl 80 0 1 (.slice A908 l907.length C909) 17 (by kernel_rfl) (by kernel_rfl) (by kernel_rfl) (by kernel_rfl)) ?_
        refine ED.quick hN hF hC [8, 9, 10, 11] [0, 1, 2, 21] 17 [(0, .pointer (some ⟨g906, 0, none⟩)), (1, .int .i64 a915), (2, .int .i64 a916), (21, .bool (decide (a915 ≥ (l907.length : Int))))] #[true, true, true, true, true, true, true, true, true, true, true, true, false, false, false, false, false, false, false, false, false, false, false, false, false, false, false, false, false] (by kernel_rfl) (by kernel_rfl) ?_
        refine ED.keep [0, 1, 2, 21] [(0, .pointer (some ⟨g906, 0, none⟩)), (1, .int .i64 a915), (2, .int .i64 a916), (21, .bool (decide (a915 ≥ (l907.length : Int))))] (by kernel_rfl) ?_
        refine ED.as' [(0, .pointer (some ⟨g906, 0, none⟩)), (1, .int .i64 a915), (2, .int .i64 a916), (21, .bool (true))] (by simp only [dec_t h1125, Bool.not_true, Bool.not_false]) ?_
        refine ED.quick hN hF hC [12, 13, 14, 15, 16, 17, 18, 19, 20, 21, 22, 23, 24, 25, 26, 27, 28] [0, 1, 2, 38] 0 [(0, .pointer (some ⟨g906, 0, none⟩)), (1, .int .i64 a915), (2, .int .i64 a916), (38, .bool (true))] #[true, true, true, true, true, true, true, true, true, true, true, true, true, true, true, true, true, true, true, true, true, true, true, true, true, true, true, true, true] (by kernel_rfl) (by kernel_rfl) ?_
        refine ED.done (by kernel_rfl) ?_
        refine EQ.to ?_
        refine EQ.keep [0, 1, 2, 38] [(0, .pointer (some ⟨g906, 0, none⟩)), (1, .int .i64 a915), (2, .int .i64 a916), (38, .bool (true))] (by kernel_rfl) ?_
        exact fun a ha => ⟨true, ha, (hS.re [2, 2, 2] [] rfl (sub_self)), H⟩
      · rw [if_neg h1125] at H
        obtain ⟨h1126, H⟩ := ite_in H
        obtain ⟨h1127, H⟩ := ite_in H
        obtain ⟨ad1128, rfl⟩ := St.deep_some hS 1 rfl h1126 h1127
        obtain ⟨h1131, H⟩ := ite_in H
        obtain ⟨ad1132, rfl⟩ := St.rd_some hS (Rd.own 2 3 rfl) h1126 h1131
        have hS := hS.drew
        refine EW.draw (B := B) (id := 1) (ops := Cd46.r.l.l.ops) [Ass.box 99 g906 [.slice (some ad1128) l907.length C909, .slice (some ad1132) l911.length C913], Ass.own 3 (Kd.int .i64) (some ad1132) C913 l911] [] (by kernel_rfl) (by kernel_rfl) ?_
        have hN : Region.noSelect Cd46.r.l.l.ops = true := (by kernel_rfl)
        have hF : freeAll Cd46.r.l.l.ops = true := (by kernel_rfl)
        have hC : Core B [Ass.box 99 g906 [.slice (some ad1128) l907.length C909, .slice (some ad1132) l911.length C913], Ass.own 3 (Kd.int .i64) (some ad1132) C913 l911] [] _ := ⟨_, _, hS.re [2, 1] [] rfl sub_self⟩
        refine ED.quick hN hF hC [0, 1, 2] [0, 1, 2, 12] 26 [(0, .pointer (some ⟨g906, 0, none⟩)), (1, .int .i64 a915), (2, .int .i64 a916), (12, .bool (decide (a915 < 0)))] #[true, true, true, false, false, false, false, false, false, false, false, false, false, false, false, false, false, false, false, false, false, false, false, false, false, false, false, false, false] (by kernel_rfl) (by kernel_rfl) ?_
        refine ED.keep [0, 1, 2, 12] [(0, .pointer (some ⟨g906, 0, none⟩)), (1, .int .i64 a915), (2, .int .i64 a916), (12, .bool (decide (a915 < 0)))] (by kernel_rfl) ?_
        refine ED.as' [(0, .pointer (some ⟨g906, 0, none⟩)), (1, .int .i64 a915), (2, .int .i64 a916), (12, .bool (false))] (by simp only [dec_f h1124, Bool.not_true, Bool.not_false]) ?_
        refine ED.quick hN hF hC [3, 4, 5, 6] [0, 1, 2, 12, 13, 16] 22 [(0, .pointer (some ⟨g906, 0, none⟩)), (1, .int .i64 a915), (2, .int .i64 a916), (12, .bool (false)), (13, .int .i64 a915), (16, .pointer (some ⟨g906, 0, none⟩))] #[true, true, true, true, true, true, true, false, false, false, false, false, false, false, false, false, false, false, false, false, false, false, false, false, false, false, false, false, false] (by kernel_rfl) (by kernel_rfl) ?_
        refine ED.Y hN hF hC 7 21 #[true, true, true, true, true, true, true, true, false, false, false, false, false, false, false, false, false, false, false, false, false, false, false, false, false, false, false, false, false] (by kernel_rfl) (by kernel_rfl) rfl (fun _ _ _ hS => YO.loadBox hS 0 rfl 80 0 1 (.slice (some ad1128) l907.length C909) 17 (by kernel_rfl) (by kernel_rfl) (by kernel_rfl) (by kernel_rfl)) ?_
        refine ED.quick hN hF hC [8, 9, 10, 11] [0, 1, 2, 21] 17 [(0, .pointer (some ⟨g906, 0, none⟩)), (1, .int .i64 a915), (2, .int .i64 a916), (21, .bool (decide (a915 ≥ (l907.length : Int))))] #[true, true, true, true, true, true, true, true, true, true, true, true, false, false, false, false, false, false, false, false, false, false, false, false, false, false, false, false, false] (by kernel_rfl) (by kernel_rfl) ?_
        refine ED.keep [0, 1, 2, 21] [(0, .pointer (some ⟨g906, 0, none⟩)), (1, .int .i64 a915), (2, .int .i64 a916), (21, .bool (decide (a915 ≥ (l907.length : Int))))] (by kernel_rfl) ?_
        refine ED.as' [(0, .pointer (some ⟨g906, 0, none⟩)), (1, .int .i64 a915), (2, .int .i64 a916), (21, .bool (false))] (by simp only [dec_f h1125, Bool.not_true, Bool.not_false]) ?_
        refine ED.quick hN hF hC [12, 13, 14, 16, 20, 21, 22, 24] [0, 1, 2, 21, 24, 26, 32, 34] 9 [(0, .pointer (some ⟨g906, 0, none⟩)), (1, .int .i64 a915), (2, .int .i64 a916), (21, .bool (false)), (24, .pointer (some ⟨g906, 0, none⟩)), (26, .int .i64 a915), (32, .pointer (some ⟨g906, 1, none⟩)), (34, .int .i64 a915)] #[true, true, true, true, true, true, true, true, true, true, true, true, true, true, true, false, true, false, false, false, true, true, true, false, true, false, false, false, false] (by kernel_rfl) (by kernel_rfl) ?_
        refine ED.Y hN hF hC 15 8 #[true, true, true, true, true, true, true, true, true, true, true, true, true, true, true, true, true, false, false, false, true, true, true, false, true, false, false, false, false] (by kernel_rfl) (by kernel_rfl) rfl (fun _ _ _ hS => YO.loadBox hS 0 rfl 80 0 1 (.slice (some ad1128) l907.length C909) 25 (by kernel_rfl) (by kernel_rfl) (by kernel_rfl) (by kernel_rfl)) ?_
        refine ED.Y hN hF hC 17 7 #[true, true, true, true, true, true, true, true, true, true, true, true, true, true, true, true, true, true, false, false, true, true, true, false, true, false, false, false, false] (by kernel_rfl) (by kernel_rfl) rfl (fun _ _ _ hS => YO.idx 80 1 ad1128 l907.length C909 .i64 a915 27 (by kernel_rfl) (by kernel_rfl) (by kernel_rfl) (by kernel_rfl) h1126 h1127) ?_
        refine ED.Y hN hF hC 23 6 #[true, true, true, true, true, true, true, true, true, true, true, true, true, true, true, true, true, true, false, false, true, true, true, true, true, false, false, false, false] (by kernel_rfl) (by kernel_rfl) rfl (fun _ _ _ hS => YO.loadBox hS 0 rfl 24 1 1 (.slice (some ad1132) l911.length C913) 33 (by kernel_rfl) (by kernel_rfl) (by kernel_rfl) (by kernel_rfl)) ?_
        refine ED.Y hN hF hC 25 5 #[true, true, true, true, true, true, true, true, true, true, true, true, true, true, true, true, true, true, false, false, true, true, true, true, true, true, false, false, false] (by kernel_rfl) (by kernel_rfl) rfl (fun _ _ _ hS => YO.idx 24 1 ad1132 l911.length C913 .i64 a915 35 (by kernel_rfl) (by kernel_rfl) (by kernel_rfl) (by kernel_rfl) h1126 h1131) ?_
        refine ED.Y hN hF hC 26 4 #[true, true, true, true, true, true, true, true, true, true, true, true, true, true, true, true, true, true, false, false, true, true, true, true, true, true, true, false, false] (by kernel_rfl) (by kernel_rfl) rfl (fun _ _ _ hS => YO.loadEl hS (Kd.int .i64) ad1132 C913 l911 (Rd.own 1 3 rfl) 0 (encI .i64) encI_of a915 h1126 h1131 3 1 0 1 rfl (.int .i64 (l911.getD a915.toNat 0)) 36 (by kernel_rfl) (by kernel_rfl) (by kernel_rfl) (by kernel_rfl)) ?_
        refine ED.one 18 3 #[true, true, true, true, true, true, true, true, true, true, true, true, true, true, true, true, true, true, true, false, true, true, true, true, true, true, true, false, false] (by kernel_rfl) (by kernel_rfl) (by kernel_rfl) (EO.openEl hS 1 ad1128 rfl a915 h1126 h1127 (fun A1135 C1136 => Ass.box 99 g906 [.slice (some ad1128) l907.length C909, .slice (some ad1132) l911.length C913] :: Ass.holed 87 75 kS75 (some ad1128) C909 l907 a915.toNat (A1135, (l907.getD a915.toNat []).length, C1136) :: Ass.own 3 (Kd.int .i64) (some ad1132) C913 l911 :: os) 87 28 (by kernel_rfl) (by kernel_rfl) (by kernel_rfl) (by kernel_rfl) (fun _ _ => rfl) ?_)
        intro A1135 C1136 hS
        have hC : Core B [Ass.box 99 g906 [.slice (some ad1128) l907.length C909, .slice (some ad1132) l911.length C913], Ass.own 3 (Kd.int .i64) (some ad1132) C913 l911] [] _ := ⟨_, _, hS.re [3, 2] [] rfl sub_self⟩
        refine ⟨hC, ?_⟩
        refine ED.quick hN hF hC [19, 27, 28] [0, 1, 2, 38] 0 [(0, .pointer (some ⟨g906, 0, none⟩)), (1, .int .i64 a915), (2, .int .i64 a916), (38, .bool (decide (((l907.getD a915.toNat []).length : Int) ≥ (l911.getD a915.toNat 0))))] #[true, true, true, true, true, true, true, true, true, true, true, true, true, true, true, true, true, true, true, true, true, true, true, true, true, true, true, true, true] (by kernel_rfl) (by kernel_rfl) ?_
        refine ED.done (by kernel_rfl) ?_
        refine EQ.to ?_
        have hS := St.as (os' := Ass.box 99 g906 [.slice (some ad1128) l907.length C909, .slice (some ad1132) l911.length C913] :: Ass.deep 87 75 kS75 (some ad1128) C909 l907 :: Ass.own 3 (Kd.int .i64) (some ad1132) C913 l911 :: os) (St.close hS 0 1 rfl rfl rfl l907 (set_getD _ _)) rfl
        refine EQ.keep [0, 1, 2, 38] [(0, .pointer (some ⟨g906, 0, none⟩)), (1, .int .i64 a915), (2, .int .i64 a916), (38, .bool (decide (((l907.getD a915.toNat []).length : Int) ≥ (l911.getD a915.toNat 0))))] (by kernel_rfl) ?_
        exact fun a ha => ⟨decide (((l907.getD a915.toNat []).length : Int) ≥ (l911.getD a915.toNat 0)), ha, (hS.re [2, 2, 2] [] rfl (sub_self)), H⟩
  · obtain ⟨x1122, ha, hS, H⟩ := hI
    rw [hj1123] at H
    (try dsimp only at H)
    refine EW.at ?_ a ha
    clear ha a
    refine EW.condP' (o := (.tmp 38)) (x := Cd46.r.l.r.l) (y := Cd46.r.l.r.r) (x1122) (by kernel_rfl) (by kernel_rfl) (fun h1137 => ?_) (fun h1137 => ?_)
    · rw [if_pos h1137] at H
      refine EW.seq (x := Cd46.r.l.r.l.l) (y := Cd46.r.l.r.l.r) (by kernel_rfl) ?_
      refine EW.region (id := 2) (ops := Cd46.r.l.r.l.l.ops) (by kernel_rfl) ?_
      refine EL.quick 2 [6, 7] [(6, .int .i32 0), (7, .bool (false))] (by kernel_rfl) ?_
      refine EL.done (by kernel_rfl) ?_
      refine EQ.code ?_
      refine EW.ret (by kernel_rfl) ?_
      refine EQ.ret ?_
      simp only [Option.some.injEq, Prod.mk.injEq] at H
      obtain ⟨rfl, rfl, rfl⟩ := H
      exact EQ.leave (.tuple #[.int .i32 0, .bool (false)]) (by kernel_rfl) ⟨_, rfl, A908, C909, rfl, (hS.re [2, 2, 2] [] rfl (sub_self))⟩
    · rw [if_neg h1137] at H
      refine EW.skip (by kernel_rfl) ?_
      refine EQ.code ?_
      refine EW.seq (x := Cd46.r.r.l) (y := Cd46.r.r.r) (by kernel_rfl) ?_
      refine EW.region (id := 3) (ops := Cd46.r.r.l.ops) (by kernel_rfl) ?_
      refine EL.quick 4 [0, 1, 2, 40, 43] [(0, .pointer (some ⟨g906, 0, none⟩)), (1, .int .i64 a915), (2, .int .i64 a916), (40, .int .i64 a915), (43, .pointer (some ⟨g906, 0, none⟩))] (by kernel_rfl) ?_
      refine EL.of (EO.Y (YO.loadBox hS 0 rfl 80 0 1 (.slice A908 l907.length C909) 44 (by kernel_rfl) (by kernel_rfl) (by kernel_rfl) (by kernel_rfl)) ?_)
      refine EL.quick 1 [0, 1, 2, 40, 44, 45] [(0, .pointer (some ⟨g906, 0, none⟩)), (1, .int .i64 a915), (2, .int .i64 a916), (40, .int .i64 a915), (44, .slice A908 l907.length C909), (45, .int .i64 a915)] (by kernel_rfl) ?_
      obtain ⟨h1146, H⟩ := ite_in H
      obtain ⟨h1147, H⟩ := ite_in H
      obtain ⟨ad1148, rfl⟩ := St.deep_some hS 1 rfl h1146 h1147
      refine EL.of (EO.Y (YO.idx 80 1 ad1148 l907.length C909 .i64 a915 46 (by kernel_rfl) (by kernel_rfl) (by kernel_rfl) (by kernel_rfl) h1146 h1147) ?_)
      refine EL.of (EO.openEl hS 1 ad1148 rfl a915 h1146 h1147 (fun A1149 C1150 => Ass.box 99 g906 [.slice (some ad1148) l907.length C909, .slice A912 l911.length C913] :: Ass.holed 87 75 kS75 (some ad1148) C909 l907 a915.toNat (A1149, (l907.getD a915.toNat []).length, C1150) :: Ass.own 3 (Kd.int .i64) A912 C913 l911 :: os) 87 47 (by kernel_rfl) (by kernel_rfl) (by kernel_rfl) (by kernel_rfl) (fun _ _ => rfl) ?_)
      intro A1149 C1150 hS
      refine EL.quick 1 [0, 1, 2, 40, 48] [(0, .pointer (some ⟨g906, 0, none⟩)), (1, .int .i64 a915), (2, .int .i64 a916), (40, .int .i64 a915), (48, .int .i64 ((l907.getD a915.toNat []).length : Int))] (by kernel_rfl) ?_
      obtain ⟨t1151, t1152, hc1153, H⟩ := b2_out H
      refine EL.of (EO.callD 67 [.int .i64 a915, .int .i64 ((l907.getD a915.toNat []).length : Int)] _ 49 (by kernel_rfl) (by kernel_rfl) (by kernel_rfl) (ident_Of.calls hc1153 hS) ?_)
      rintro v w ⟨rfl, hS⟩
      refine EL.quick 5 [0, 1, 2, 8, 9] [(0, .pointer (some ⟨g906, 0, none⟩)), (1, .int .i64 a915), (2, .int .i64 a916), (8, .int .i32 t1151), (9, .bool (t1152))] (by kernel_rfl) ?_
      refine EL.done (by kernel_rfl) ?_
      refine EQ.code ?_
      refine EW.seq (x := Cd46.r.r.r.l) (y := Cd46.r.r.r.r) (by kernel_rfl) ?_
      obtain ⟨l1162, hl1162, H⟩ := lt_out H
      obtain ⟨h1163, H⟩ := ite_in H
      obtain ⟨l1164, hl1164, H⟩ := lt_out H
      obtain ⟨l1167, hl1167, H⟩ := lt_out H
      refine EW.meet (id := 4) (ops := Cd46.r.r.r.l.ops) (fun a w => ∃ A1207 : Option Addr, ∃ C1208 : Nat, Sat 71 [(8, .int .i32 t1151), (9, .bool (t1152))] a ∧ St B w (Ass.own 75 kS75 A1207 C1208 l1162 :: Ass.box 99 g906 [.slice (some ad1148) l1167.length C909, .slice A912 l911.length C913] :: Ass.deep 87 75 kS75 (some ad1148) C909 l1167 :: Ass.own 3 (Kd.int .i64) A912 C913 l911 :: os) (rs)) (by kernel_rfl) ?_ (fun a w hI => ?_)
      · have hS := hS.drew
        refine EW.draw (B := B) (id := 4) (ops := Cd46.r.r.r.l.ops) [Ass.own 3 (Kd.int .i64) A912 C913 l911] [] (by kernel_rfl) (by kernel_rfl) ?_
        have hN : Region.noSelect Cd46.r.r.r.l.ops = true := (by kernel_rfl)
        have hF : freeAll Cd46.r.r.r.l.ops = true := (by kernel_rfl)
        have hC : Core B [Ass.own 3 (Kd.int .i64) A912 C913 l911] [] _ := ⟨_, _, hS.re [3] [] rfl sub_self⟩
        refine ED.quick hN hF hC [0, 1, 2, 4, 5, 6, 7, 9, 12, 13] [8, 9, 54, 56, 59, 61, 65] 8 [(8, .int .i32 t1151), (9, .bool (t1152)), (54, .pointer (some ⟨g906, 0, none⟩)), (56, .int .i64 a915), (59, .pointer (some ⟨g906, 0, none⟩)), (61, .int .i64 a915), (65, .agg #[.int .i64 a916, .int .i64 0, .int .i32 0, .int .i64 0])] #[true, true, true, false, true, true, true, true, false, true, false, false, true, true, false, false, false, false] (by kernel_rfl) (by kernel_rfl) ?_
        refine ED.many 3 [8, 14] 7 (by kernel_rfl) (by kernel_rfl) (Each.cons ?_ (Each.cons ?_ (Each.cons ?_ Each.nil)))
        · refine EO.Y (YO.loadBox hS 1 rfl 80 0 1 (.slice (some ad1148) l907.length C909) 55 (by kernel_rfl) (by kernel_rfl) (by kernel_rfl) (by kernel_rfl)) ?_
          have hC : Core B [Ass.own 3 (Kd.int .i64) A912 C913 l911] [] _ := ⟨_, _, hS.re [3] [] rfl sub_self⟩
          refine ⟨hC, ?_⟩
          refine ED.at' #[true, true, true, true, true, true, true, true, false, true, false, false, true, true, false, false, false, false] (by kernel_rfl) ?_
          refine ED.two 8 14 6 (by kernel_rfl) (by kernel_rfl) ?_ ?_
          · refine EO.Y (YO.loadBox hS 1 rfl 80 0 1 (.slice (some ad1148) l907.length C909) 60 (by kernel_rfl) (by kernel_rfl) (by kernel_rfl) (by kernel_rfl)) ?_
            have hC : Core B [Ass.own 3 (Kd.int .i64) A912 C913 l911] [] _ := ⟨_, _, hS.re [3] [] rfl sub_self⟩
            refine ⟨hC, ?_⟩
            refine ED.at' #[true, true, true, true, true, true, true, true, true, true, false, false, true, true, false, false, false, false] (by kernel_rfl) ?_
            refine ED.Y hN hF hC 10 5 #[true, true, true, true, true, true, true, true, true, true, true, false, true, true, false, false, false, false] (by kernel_rfl) (by kernel_rfl) rfl (fun _ _ _ hS => YO.idx 80 1 ad1148 l907.length C909 .i64 a915 62 (by kernel_rfl) (by kernel_rfl) (by kernel_rfl) (by kernel_rfl) h1146 h1147) ?_
            refine ED.two 11 14 4 (by kernel_rfl) (by kernel_rfl) ?_ ?_
            · refine EO.Y (YO.loadHole hS 2 ad1148 (j := a915) rfl h1146 87 63 (by kernel_rfl) (by kernel_rfl) (by kernel_rfl) (by kernel_rfl)) ?_
              have hC : Core B [Ass.own 3 (Kd.int .i64) A912 C913 l911] [] _ := ⟨_, _, hS.re [3] [] rfl sub_self⟩
              refine ⟨hC, ?_⟩
              refine ED.at' #[true, true, true, true, true, true, true, true, true, true, true, true, true, true, false, false, false, false] (by kernel_rfl) ?_
              refine ED.one 14 3 #[true, true, true, true, true, true, true, true, true, true, true, true, true, true, true, false, false, false] (by kernel_rfl) (by kernel_rfl) (by kernel_rfl) (EO.lit hS kS75 75 87 1 #[(0, .agg #[.int .i64 a916, .int .i64 0, .int .i32 0, .int .i64 0])] [.int .i64 a916, .int .i64 0, .int .i32 0, .int .i64 0] l1162 66 (by kernel_rfl) (by kernel_rfl) (by kernel_rfl) (fun _ => (by kernel_rfl)) (by rw [hl1162]; rfl) (by kernel_rfl) (fun w G hr => (by rw [hl1162]; exact ⟨[.int .i64 a916, .int .i64 0, .int .i32 0, .int .i64 0], [], rfl, ⟨[.int .i64 a916], [.int .i64 0, .int .i32 0, .int .i64 0], rfl, rfl, ⟨[.int .i64 0], [.int .i32 0, .int .i64 0], rfl, rfl, ⟨[.int .i32 0], [.int .i64 0], rfl, rfl, ⟨[.int .i64 0], [], rfl, rfl, rfl⟩⟩⟩⟩, rfl⟩)) ?_)
              intro g1209 w hS
              have hC : Core B [Ass.own 3 (Kd.int .i64) A912 C913 l911] [] _ := ⟨_, _, hS.re [4] [] rfl sub_self⟩
              refine ⟨hC, ?_⟩
              refine ED.one 15 2 #[true, true, true, true, true, true, true, true, true, true, true, true, true, true, true, true, false, false] (by kernel_rfl) (by kernel_rfl) (by kernel_rfl) (EO.append hS 87 87 75 32 1 kS75 A1149 C1150 (l907.getD a915.toNat []) rfl (some ⟨g1209, 0, none⟩) 1 l1162 (Rd.own 0 75 rfl) l1164 hl1164 (fun A1210 C1211 => Ass.own 75 kS75 (some ⟨g1209, 0, none⟩) 1 l1162 :: Ass.own 75 kS75 A1210 C1211 l1164 :: Ass.box 99 g906 [.slice (some ad1148) l907.length C909, .slice A912 l911.length C913] :: Ass.holed 87 75 kS75 (some ad1148) C909 l907 a915.toNat (A1149, (l907.getD a915.toNat []).length, C1150) :: Ass.own 3 (Kd.int .i64) A912 C913 l911 :: os) 67 (by kernel_rfl) (by kernel_rfl) (by kernel_rfl) (by kernel_rfl) h1163 (fun _ _ => rfl) ?_)
              intro A1210 C1211 w hS
              have hC : Core B [Ass.own 3 (Kd.int .i64) A912 C913 l911] [] _ := ⟨_, _, hS.re [4] [] rfl sub_self⟩
              refine ⟨hC, ?_⟩
              refine ED.Y hN hF hC 16 1 #[true, true, true, true, true, true, true, true, true, true, true, true, true, true, true, true, true, false] (by kernel_rfl) (by kernel_rfl) rfl (fun _ _ _ hS => YO.idx 80 1 ad1148 l907.length C909 .i64 a915 68 (by kernel_rfl) (by kernel_rfl) (by kernel_rfl) (by kernel_rfl) h1146 h1147) ?_
              refine ED.one 17 0 #[true, true, true, true, true, true, true, true, true, true, true, true, true, true, true, true, true, true] (by kernel_rfl) (by kernel_rfl) (by kernel_rfl) (EO.closeEl hS 1 2 ad1148 a915 rfl rfl h1146 l1167 hl1167 (Ass.own 75 kS75 (some ⟨g1209, 0, none⟩) 1 l1162 :: Ass.box 99 g906 [.slice (some ad1148) l907.length C909, .slice A912 l911.length C913] :: Ass.deep 87 75 kS75 (some ad1148) C909 l1167 :: Ass.own 3 (Kd.int .i64) A912 C913 l911 :: os) 87 (by kernel_rfl) (by kernel_rfl) (by kernel_rfl) (by kernel_rfl) rfl ?_)
              intro w hS
              have hS : St B w (Ass.own 75 kS75 (some ⟨g1209, 0, none⟩) 1 l1162 :: Ass.box 99 g906 [.slice (some ad1148) l1167.length C909, .slice A912 l911.length C913] :: Ass.deep 87 75 kS75 (some ad1148) C909 l1167 :: Ass.own 3 (Kd.int .i64) A912 C913 l911 :: os) (rs) := by simpa only [hl1167, List.length_set] using hS
              have hC : Core B [Ass.own 3 (Kd.int .i64) A912 C913 l911] [] _ := ⟨_, _, hS.re [3] [] rfl sub_self⟩
              refine ⟨hC, ?_⟩
              refine ED.keep [8, 9, 54, 55, 56, 59, 60, 61, 62, 65, 66, 68] [(8, .int .i32 t1151), (9, .bool (t1152)), (54, .pointer (some ⟨g906, 0, none⟩)), (55, .slice (some ad1148) l907.length C909), (56, .int .i64 a915), (59, .pointer (some ⟨g906, 0, none⟩)), (60, .slice (some ad1148) l907.length C909), (61, .int .i64 a915), (62, .pointer (some ((ad1148.add (a915.toNat * 1)).add 0))), (65, .agg #[.int .i64 a916, .int .i64 0, .int .i32 0, .int .i64 0]), (66, .slice (some ⟨g1209, 0, none⟩) l1162.length 1), (68, .pointer (some ((ad1148.add (a915.toNat * 1)).add 0)))] (by kernel_rfl) ?_
              refine ED.as' [(8, .int .i32 t1151), (9, .bool (t1152)), (54, .pointer (some ⟨g906, 0, none⟩)), (55, .slice (some ad1148) l1167.length C909), (56, .int .i64 a915), (59, .pointer (some ⟨g906, 0, none⟩)), (60, .slice (some ad1148) l1167.length C909), (61, .int .i64 a915), (62, .pointer (some ((ad1148.add (a915.toNat * 1)).add 0))), (65, .agg #[.int .i64 a916, .int .i64 0, .int .i32 0, .int .i64 0]), (66, .slice (some ⟨g1209, 0, none⟩) l1162.length 1), (68, .pointer (some ((ad1148.add (a915.toNat * 1)).add 0)))] (by simp only [hl1167, List.length_set]) ?_
              refine ED.done (by kernel_rfl) ?_
              refine EQ.to ?_
              refine EQ.keep [8, 9] [(8, .int .i32 t1151), (9, .bool (t1152))] (by kernel_rfl) ?_
              exact fun a ha => ⟨(some ⟨g1209, 0, none⟩), 1, ha, (hS.re [3, 3, 3, 3] [] rfl (sub_self))⟩
            · refine EO.lit hS kS75 75 87 1 #[(0, .agg #[.int .i64 a916, .int .i64 0, .int .i32 0, .int .i64 0])] [.int .i64 a916, .int .i64 0, .int .i32 0, .int .i64 0] l1162 66 (by kernel_rfl) (by kernel_rfl) (by kernel_rfl) (fun _ => (by kernel_rfl)) (by rw [hl1162]; rfl) (by kernel_rfl) (fun w G hr => (by rw [hl1162]; exact ⟨[.int .i64 a916, .int .i64 0, .int .i32 0, .int .i64 0], [], rfl, ⟨[.int .i64 a916], [.int .i64 0, .int .i32 0, .int .i64 0], rfl, rfl, ⟨[.int .i64 0], [.int .i32 0, .int .i64 0], rfl, rfl, ⟨[.int .i32 0], [.int .i64 0], rfl, rfl, ⟨[.int .i64 0], [], rfl, rfl, rfl⟩⟩⟩⟩, rfl⟩)) ?_
              intro g1212 w hS
              have hC : Core B [Ass.own 3 (Kd.int .i64) A912 C913 l911] [] _ := ⟨_, _, hS.re [4] [] rfl sub_self⟩
              refine ⟨hC, ?_⟩
              refine ED.at' #[true, true, true, true, true, true, true, true, true, true, true, false, true, true, true, false, false, false] (by kernel_rfl) ?_
              refine ED.one 11 3 #[true, true, true, true, true, true, true, true, true, true, true, true, true, true, true, false, false, false] (by kernel_rfl) (by kernel_rfl) (by kernel_rfl) (EO.Y (YO.loadHole hS 3 ad1148 (j := a915) rfl h1146 87 63 (by kernel_rfl) (by kernel_rfl) (by kernel_rfl) (by kernel_rfl)) ?_)
              have hC : Core B [Ass.own 3 (Kd.int .i64) A912 C913 l911] [] _ := ⟨_, _, hS.re [4] [] rfl sub_self⟩
              refine ⟨hC, ?_⟩
              refine ED.one 15 2 #[true, true, true, true, true, true, true, true, true, true, true, true, true, true, true, true, false, false] (by kernel_rfl) (by kernel_rfl) (by kernel_rfl) (EO.append hS 87 87 75 32 1 kS75 A1149 C1150 (l907.getD a915.toNat []) rfl (some ⟨g1212, 0, none⟩) 1 l1162 (Rd.own 0 75 rfl) l1164 hl1164 (fun A1213 C1214 => Ass.own 75 kS75 (some ⟨g1212, 0, none⟩) 1 l1162 :: Ass.own 75 kS75 A1213 C1214 l1164 :: Ass.box 99 g906 [.slice (some ad1148) l907.length C909, .slice A912 l911.length C913] :: Ass.holed 87 75 kS75 (some ad1148) C909 l907 a915.toNat (A1149, (l907.getD a915.toNat []).length, C1150) :: Ass.own 3 (Kd.int .i64) A912 C913 l911 :: os) 67 (by kernel_rfl) (by kernel_rfl) (by kernel_rfl) (by kernel_rfl) h1163 (fun _ _ => rfl) ?_)
              intro A1213 C1214 w hS
              have hC : Core B [Ass.own 3 (Kd.int .i64) A912 C913 l911] [] _ := ⟨_, _, hS.re [4] [] rfl sub_self⟩
              refine ⟨hC, ?_⟩
              refine ED.Y hN hF hC 16 1 #[true, true, true, true, true, true, true, true, true, true, true, true, true, true, true, true, true, false] (by kernel_rfl) (by kernel_rfl) rfl (fun _ _ _ hS => YO.idx 80 1 ad1148 l907.length C909 .i64 a915 68 (by kernel_rfl) (by kernel_rfl) (by kernel_rfl) (by kernel_rfl) h1146 h1147) ?_
              refine ED.one 17 0 #[true, true, true, true, true, true, true, true, true, true, true, true, true, true, true, true, true, true] (by kernel_rfl) (by kernel_rfl) (by kernel_rfl) (EO.closeEl hS 1 2 ad1148 a915 rfl rfl h1146 l1167 hl1167 (Ass.own 75 kS75 (some ⟨g1212, 0, none⟩) 1 l1162 :: Ass.box 99 g906 [.slice (some ad1148) l907.length C909, .slice A912 l911.length C913] :: Ass.deep 87 75 kS75 (some ad1148) C909 l1167 :: Ass.own 3 (Kd.int .i64) A912 C913 l911 :: os) 87 (by kernel_rfl) (by kernel_rfl) (by kernel_rfl) (by kernel_rfl) rfl ?_)
              intro w hS
              have hS : St B w (Ass.own 75 kS75 (some ⟨g1212, 0, none⟩) 1 l1162 :: Ass.box 99 g906 [.slice (some ad1148) l1167.length C909, .slice A912 l911.length C913] :: Ass.deep 87 75 kS75 (some ad1148) C909 l1167 :: Ass.own 3 (Kd.int .i64) A912 C913 l911 :: os) (rs) := by simpa only [hl1167, List.length_set] using hS
              have hC : Core B [Ass.own 3 (Kd.int .i64) A912 C913 l911] [] _ := ⟨_, _, hS.re [3] [] rfl sub_self⟩
              refine ⟨hC, ?_⟩
              refine ED.keep [8, 9, 54, 55, 56, 59, 60, 61, 62, 65, 66, 68] [(8, .int .i32 t1151), (9, .bool (t1152)), (54, .pointer (some ⟨g906, 0, none⟩)), (55, .slice (some ad1148) l907.length C909), (56, .int .i64 a915), (59, .pointer (some ⟨g906, 0, none⟩)), (60, .slice (some ad1148) l907.length C909), (61, .int .i64 a915), (62, .pointer (some ((ad1148.add (a915.toNat * 1)).add 0))), (65, .agg #[.int .i64 a916, .int .i64 0, .int .i32 0, .int .i64 0]), (66, .slice (some ⟨g1212, 0, none⟩) l1162.length 1), (68, .pointer (some ((ad1148.add (a915.toNat * 1)).add 0)))] (by kernel_rfl) ?_
              refine ED.as' [(8, .int .i32 t1151), (9, .bool (t1152)), (54, .pointer (some ⟨g906, 0, none⟩)), (55, .slice (some ad1148) l1167.length C909), (56, .int .i64 a915), (59, .pointer (some ⟨g906, 0, none⟩)), (60, .slice (some ad1148) l1167.length C909), (61, .int .i64 a915), (62, .pointer (some ((ad1148.add (a915.toNat * 1)).add 0))), (65, .agg #[.int .i64 a916, .int .i64 0, .int .i32 0, .int .i64 0]), (66, .slice (some ⟨g1212, 0, none⟩) l1162.length 1), (68, .pointer (some ((ad1148.add (a915.toNat * 1)).add 0)))] (by simp only [hl1167, List.length_set]) ?_
              refine ED.done (by kernel_rfl) ?_
              refine EQ.to ?_
              refine EQ.keep [8, 9] [(8, .int .i32 t1151), (9, .bool (t1152))] (by kernel_rfl) ?_
              exact fun a ha => ⟨(some ⟨g1212, 0, none⟩), 1, ha, (hS.re [3, 3, 3, 3] [] rfl (sub_self))⟩
          · refine EO.lit hS kS75 75 87 1 #[(0, .agg #[.int .i64 a916, .int .i64 0, .int .i32 0, .int .i64 0])] [.int .i64 a916, .int .i64 0, .int .i32 0, .int .i64 0] l1162 66 (by kernel_rfl) (by kernel_rfl) (by kernel_rfl) (fun _ => (by kernel_rfl)) (by rw [hl1162]; rfl) (by kernel_rfl) (fun w G hr => (by rw [hl1162]; exact ⟨[.int .i64 a916, .int .i64 0, .int .i32 0, .int .i64 0], [], rfl, ⟨[.int .i64 a916], [.int .i64 0, .int .i32 0, .int .i64 0], rfl, rfl, ⟨[.int .i64 0], [.int .i32 0, .int .i64 0], rfl, rfl, ⟨[.int .i32 0], [.int .i64 0], rfl, rfl, ⟨[.int .i64 0], [], rfl, rfl, rfl⟩⟩⟩⟩, rfl⟩)) ?_
            intro g1215 w hS
            have hC : Core B [Ass.own 3 (Kd.int .i64) A912 C913 l911] [] _ := ⟨_, _, hS.re [4] [] rfl sub_self⟩
            refine ⟨hC, ?_⟩
            refine ED.at' #[true, true, true, true, true, true, true, true, false, true, false, false, true, true, true, false, false, false] (by kernel_rfl) ?_
            refine ED.one 8 5 #[true, true, true, true, true, true, true, true, true, true, false, false, true, true, true, false, false, false] (by kernel_rfl) (by kernel_rfl) (by kernel_rfl) (EO.Y (YO.loadBox hS 2 rfl 80 0 1 (.slice (some ad1148) l907.length C909) 60 (by kernel_rfl) (by kernel_rfl) (by kernel_rfl) (by kernel_rfl)) ?_)
            have hC : Core B [Ass.own 3 (Kd.int .i64) A912 C913 l911] [] _ := ⟨_, _, hS.re [4] [] rfl sub_self⟩
            refine ⟨hC, ?_⟩
            refine ED.Y hN hF hC 10 4 #[true, true, true, true, true, true, true, true, true, true, true, false, true, true, true, false, false, false] (by kernel_rfl) (by kernel_rfl) rfl (fun _ _ _ hS => YO.idx 80 1 ad1148 l907.length C909 .i64 a915 62 (by kernel_rfl) (by kernel_rfl) (by kernel_rfl) (by kernel_rfl) h1146 h1147) ?_
            refine ED.one 11 3 #[true, true, true, true, true, true, true, true, true, true, true, true, true, true, true, false, false, false] (by kernel_rfl) (by kernel_rfl) (by kernel_rfl) (EO.Y (YO.loadHole hS 3 ad1148 (j := a915) rfl h1146 87 63 (by kernel_rfl) (by kernel_rfl) (by kernel_rfl) (by kernel_rfl)) ?_)
            have hC : Core B [Ass.own 3 (Kd.int .i64) A912 C913 l911] [] _ := ⟨_, _, hS.re [4] [] rfl sub_self⟩
            refine ⟨hC, ?_⟩
            refine ED.one 15 2 #[true, true, true, true, true, true, true, true, true, true, true, true, true, true, true, true, false, false] (by kernel_rfl) (by kernel_rfl) (by kernel_rfl) (EO.append hS 87 87 75 32 1 kS75 A1149 C1150 (l907.getD a915.toNat []) rfl (some ⟨g1215, 0, none⟩) 1 l1162 (Rd.own 0 75 rfl) l1164 hl1164 (fun A1216 C1217 => Ass.own 75 kS75 (some ⟨g1215, 0, none⟩) 1 l1162 :: Ass.own 75 kS75 A1216 C1217 l1164 :: Ass.box 99 g906 [.slice (some ad1148) l907.length C909, .slice A912 l911.length C913] :: Ass.holed 87 75 kS75 (some ad1148) C909 l907 a915.toNat (A1149, (l907.getD a915.toNat []).length, C1150) :: Ass.own 3 (Kd.int .i64) A912 C913 l911 :: os) 67 (by kernel_rfl) (by kernel_rfl) (by kernel_rfl) (by kernel_rfl) h1163 (fun _ _ => rfl) ?_)
            intro A1216 C1217 w hS
            have hC : Core B [Ass.own 3 (Kd.int .i64) A912 C913 l911] [] _ := ⟨_, _, hS.re [4] [] rfl sub_self⟩
            refine ⟨hC, ?_⟩
            refine ED.Y hN hF hC 16 1 #[true, true, true, true, true, true, true, true, true, true, true, true, true, true, true, true, true, false] (by kernel_rfl) (by kernel_rfl) rfl (fun _ _ _ hS => YO.idx 80 1 ad1148 l907.length C909 .i64 a915 68 (by kernel_rfl) (by kernel_rfl) (by kernel_rfl) (by kernel_rfl) h1146 h1147) ?_
            refine ED.one 17 0 #[true, true, true, true, true, true, true, true, true, true, true, true, true, true, true, true, true, true] (by kernel_rfl) (by kernel_rfl) (by kernel_rfl) (EO.closeEl hS 1 2 ad1148 a915 rfl rfl h1146 l1167 hl1167 (Ass.own 75 kS75 (some ⟨g1215, 0, none⟩) 1 l1162 :: Ass.box 99 g906 [.slice (some ad1148) l907.length C909, .slice A912 l911.length C913] :: Ass.deep 87 75 kS75 (some ad1148) C909 l1167 :: Ass.own 3 (Kd.int .i64) A912 C913 l911 :: os) 87 (by kernel_rfl) (by kernel_rfl) (by kernel_rfl) (by kernel_rfl) rfl ?_)
            intro w hS
            have hS : St B w (Ass.own 75 kS75 (some ⟨g1215, 0, none⟩) 1 l1162 :: Ass.box 99 g906 [.slice (some ad1148) l1167.length C909, .slice A912 l911.length C913] :: Ass.deep 87 75 kS75 (some ad1148) C909 l1167 :: Ass.own 3 (Kd.int .i64) A912 C913 l911 :: os) (rs) := by simpa only [hl1167, List.length_set] using hS
            have hC : Core B [Ass.own 3 (Kd.int .i64) A912 C913 l911] [] _ := ⟨_, _, hS.re [3] [] rfl sub_self⟩
            refine ⟨hC, ?_⟩
            refine ED.keep [8, 9, 54, 55, 56, 59, 60, 61, 62, 65, 66, 68] [(8, .int .i32 t1151), (9, .bool (t1152)), (54, .pointer (some ⟨g906, 0, none⟩)), (55, .slice (some ad1148) l907.length C909), (56, .int .i64 a915), (59, .pointer (some ⟨g906, 0, none⟩)), (60, .slice (some ad1148) l907.length C909), (61, .int .i64 a915), (62, .pointer (some ((ad1148.add (a915.toNat * 1)).add 0))), (65, .agg #[.int .i64 a916, .int .i64 0, .int .i32 0, .int .i64 0]), (66, .slice (some ⟨g1215, 0, none⟩) l1162.length 1), (68, .pointer (some ((ad1148.add (a915.toNat * 1)).add 0)))] (by kernel_rfl) ?_
            refine ED.as' [(8, .int .i32 t1151), (9, .bool (t1152)), (54, .pointer (some ⟨g906, 0, none⟩)), (55, .slice (some ad1148) l1167.length C909), (56, .int .i64 a915), (59, .pointer (some ⟨g906, 0, none⟩)), (60, .slice (some ad1148) l1167.length C909), (61, .int .i64 a915), (62, .pointer (some ((ad1148.add (a915.toNat * 1)).add 0))), (65, .agg #[.int .i64 a916, .int .i64 0, .int .i32 0, .int .i64 0]), (66, .slice (some ⟨g1215, 0, none⟩) l1162.length 1), (68, .pointer (some ((ad1148.add (a915.toNat * 1)).add 0)))] (by simp only [hl1167, List.length_set]) ?_
            refine ED.done (by kernel_rfl) ?_
            refine EQ.to ?_
            refine EQ.keep [8, 9] [(8, .int .i32 t1151), (9, .bool (t1152))] (by kernel_rfl) ?_
            exact fun a ha => ⟨(some ⟨g1215, 0, none⟩), 1, ha, (hS.re [3, 3, 3, 3] [] rfl (sub_self))⟩
        · refine EO.Y (YO.loadBox hS 1 rfl 80 0 1 (.slice (some ad1148) l907.length C909) 60 (by kernel_rfl) (by kernel_rfl) (by kernel_rfl) (by kernel_rfl)) ?_
          have hC : Core B [Ass.own 3 (Kd.int .i64) A912 C913 l911] [] _ := ⟨_, _, hS.re [3] [] rfl sub_self⟩
          refine ⟨hC, ?_⟩
          refine ED.at' #[true, true, true, false, true, true, true, true, true, true, false, false, true, true, false, false, false, false] (by kernel_rfl) ?_
          refine ED.Y hN hF hC 10 6 #[true, true, true, false, true, true, true, true, true, true, true, false, true, true, false, false, false, false] (by kernel_rfl) (by kernel_rfl) rfl (fun _ _ _ hS => YO.idx 80 1 ad1148 l907.length C909 .i64 a915 62 (by kernel_rfl) (by kernel_rfl) (by kernel_rfl) (by kernel_rfl) h1146 h1147) ?_
          refine ED.many 3 [11, 14] 5 (by kernel_rfl) (by kernel_rfl) (Each.cons ?_ (Each.cons ?_ (Each.cons ?_ Each.nil)))
          · refine EO.Y (YO.loadBox hS 1 rfl 80 0 1 (.slice (some ad1148) l907.length C909) 55 (by kernel_rfl) (by kernel_rfl) (by kernel_rfl) (by kernel_rfl)) ?_
            have hC : Core B [Ass.own 3 (Kd.int .i64) A912 C913 l911] [] _ := ⟨_, _, hS.re [3] [] rfl sub_self⟩
            refine ⟨hC, ?_⟩
            refine ED.at' #[true, true, true, true, true, true, true, true, true, true, true, false, true, true, false, false, false, false] (by kernel_rfl) ?_
            refine ED.two 11 14 4 (by kernel_rfl) (by kernel_rfl) ?_ ?_
            · refine EO.Y (YO.loadHole hS 2 ad1148 (j := a915) rfl h1146 87 63 (by kernel_rfl) (by kernel_rfl) (by kernel_rfl) (by kernel_rfl)) ?_
              have hC : Core B [Ass.own 3 (Kd.int .i64) A912 C913 l911] [] _ := ⟨_, _, hS.re [3] [] rfl sub_self⟩
              refine ⟨hC, ?_⟩
              refine ED.at' #[true, true, true, true, true, true, true, true, true, true, true, true, true, true, false, false, false, false] (by kernel_rfl) ?_
              refine ED.one 14 3 #[true, true, true, true, true, true, true, true, true, true, true, true, true, true, true, false, false, false] (by kernel_rfl) (by kernel_rfl) (by kernel_rfl) (EO.lit hS kS75 75 87 1 #[(0, .agg #[.int .i64 a916, .int .i64 0, .int .i32 0, .int .i64 0])] [.int .i64 a916, .int .i64 0, .int .i32 0, .int .i64 0] l1162 66 (by kernel_rfl) (by kernel_rfl) (by kernel_rfl) (fun _ => (by kernel_rfl)) (by rw [hl1162]; rfl) (by kernel_rfl) (fun w G hr => (by rw [hl1162]; exact ⟨[.int .i64 a916, .int .i64 0, .int .i32 0, .int .i64 0], [], rfl, ⟨[.int .i64 a916], [.int .i64 0, .int .i32 0, .int .i64 0], rfl, rfl, ⟨[.int .i64 0], [.int .i32 0, .int .i64 0], rfl, rfl, ⟨[.int .i32 0], [.int .i64 0], rfl, rfl, ⟨[.int .i64 0], [], rfl, rfl, rfl⟩⟩⟩⟩, rfl⟩)) ?_)
              intro g1218 w hS
              have hC : Core B [Ass.own 3 (Kd.int .i64) A912 C913 l911] [] _ := ⟨_, _, hS.re [4] [] rfl sub_self⟩
              refine ⟨hC, ?_⟩
              refine ED.one 15 2 #[true, true, true, true, true, true, true, true, true, true, true, true, true, true, true, true, false, false] (by kernel_rfl) (by kernel_rfl) (by kernel_rfl) (EO.append hS 87 87 75 32 1 kS75 A1149 C1150 (l907.getD a915.toNat []) rfl (some ⟨g1218, 0, none⟩) 1 l1162 (Rd.own 0 75 rfl) l1164 hl1164 (fun A1219 C1220 => Ass.own 75 kS75 (some ⟨g1218, 0, none⟩) 1 l1162 :: Ass.own 75 kS75 A1219 C1220 l1164 :: Ass.box 99 g906 [.slice (some ad1148) l907.length C909, .slice A912 l911.length C913] :: Ass.holed 87 75 kS75 (some ad1148) C909 l907 a915.toNat (A1149, (l907.getD a915.toNat []).length, C1150) :: Ass.own 3 (Kd.int .i64) A912 C913 l911 :: os) 67 (by kernel_rfl) (by kernel_rfl) (by kernel_rfl) (by kernel_rfl) h1163 (fun _ _ => rfl) ?_)
              intro A1219 C1220 w hS
              have hC : Core B [Ass.own 3 (Kd.int .i64) A912 C913 l911] [] _ := ⟨_, _, hS.re [4] [] rfl sub_self⟩
              refine ⟨hC, ?_⟩
              refine ED.Y hN hF hC 16 1 #[true, true, true, true, true, true, true, true, true, true, true, true, true, true, true, true, true, false] (by kernel_rfl) (by kernel_rfl) rfl (fun _ _ _ hS => YO.idx 80 1 ad1148 l907.length C909 .i64 a915 68 (by kernel_rfl) (by kernel_rfl) (by kernel_rfl) (by kernel_rfl) h1146 h1147) ?_
              refine ED.one 17 0 #[true, true, true, true, true, true, true, true, true, true, true, true, true, true, true, true, true, true] (by kernel_rfl) (by kernel_rfl) (by kernel_rfl) (EO.closeEl hS 1 2 ad1148 a915 rfl rfl h1146 l1167 hl1167 (Ass.own 75 kS75 (some ⟨g1218, 0, none⟩) 1 l1162 :: Ass.box 99 g906 [.slice (some ad1148) l907.length C909, .slice A912 l911.length C913] :: Ass.deep 87 75 kS75 (some ad1148) C909 l1167 :: Ass.own 3 (Kd.int .i64) A912 C913 l911 :: os) 87 (by kernel_rfl) (by kernel_rfl) (by kernel_rfl) (by kernel_rfl) rfl ?_)
              intro w hS
              have hS : St B w (Ass.own 75 kS75 (some ⟨g1218, 0, none⟩) 1 l1162 :: Ass.box 99 g906 [.slice (some ad1148) l1167.length C909, .slice A912 l911.length C913] :: Ass.deep 87 75 kS75 (some ad1148) C909 l1167 :: Ass.own 3 (Kd.int .i64) A912 C913 l911 :: os) (rs) := by simpa only [hl1167, List.length_set] using hS
              have hC : Core B [Ass.own 3 (Kd.int .i64) A912 C913 l911] [] _ := ⟨_, _, hS.re [3] [] rfl sub_self⟩
              refine ⟨hC, ?_⟩
              refine ED.keep [8, 9, 54, 55, 56, 59, 60, 61, 62, 65, 66, 68] [(8, .int .i32 t1151), (9, .bool (t1152)), (54, .pointer (some ⟨g906, 0, none⟩)), (55, .slice (some ad1148) l907.length C909), (56, .int .i64 a915), (59, .pointer (some ⟨g906, 0, none⟩)), (60, .slice (some ad1148) l907.length C909), (61, .int .i64 a915), (62, .pointer (some ((ad1148.add (a915.toNat * 1)).add 0))), (65, .agg #[.int .i64 a916, .int .i64 0, .int .i32 0, .int .i64 0]), (66, .slice (some ⟨g1218, 0, none⟩) l1162.length 1), (68, .pointer (some ((ad1148.add (a915.toNat * 1)).add 0)))] (by kernel_rfl) ?_
              refine ED.as' [(8, .int .i32 t1151), (9, .bool (t1152)), (54, .pointer (some ⟨g906, 0, none⟩)), (55, .slice (some ad1148) l1167.length C909), (56, .int .i64 a915), (59, .pointer (some ⟨g906, 0, none⟩)), (60, .slice (some ad1148) l1167.length C909), (61, .int .i64 a915), (62, .pointer (some ((ad1148.add (a915.toNat * 1)).add 0))), (65, .agg #[.int .i64 a916, .int .i64 0, .int .i32 0, .int .i64 0]), (66, .slice (some ⟨g1218, 0, none⟩) l1162.length 1), (68, .pointer (some ((ad1148.add (a915.toNat * 1)).add 0)))] (by simp only [hl1167, List.length_set]) ?_
              refine ED.done (by kernel_rfl) ?_
              refine EQ.to ?_
              refine EQ.keep [8, 9] [(8, .int .i32 t1151), (9, .bool (t1152))] (by kernel_rfl) ?_
              exact fun a ha => ⟨(some ⟨g1218, 0, none⟩), 1, ha, (hS.re [3, 3, 3, 3] [] rfl (sub_self))⟩
            · refine EO.lit hS kS75 75 87 1 #[(0, .agg #[.int .i64 a916, .int .i64 0, .int .i32 0, .int .i64 0])] [.int .i64 a916, .int .i64 0, .int .i32 0, .int .i64 0] l1162 66 (by kernel_rfl) (by kernel_rfl) (by kernel_rfl) (fun _ => (by kernel_rfl)) (by rw [hl1162]; rfl) (by kernel_rfl) (fun w G hr => (by rw [hl1162]; exact ⟨[.int .i64 a916, .int .i64 0, .int .i32 0, .int .i64 0], [], rfl, ⟨[.int .i64 a916], [.int .i64 0, .int .i32 0, .int .i64 0], rfl, rfl, ⟨[.int .i64 0], [.int .i32 0, .int .i64 0], rfl, rfl, ⟨[.int .i32 0], [.int .i64 0], rfl, rfl, ⟨[.int .i64 0], [], rfl, rfl, rfl⟩⟩⟩⟩, rfl⟩)) ?_
              intro g1221 w hS
              have hC : Core B [Ass.own 3 (Kd.int .i64) A912 C913 l911] [] _ := ⟨_, _, hS.re [4] [] rfl sub_self⟩
              refine ⟨hC, ?_⟩
              refine ED.at' #[true, true, true, true, true, true, true, true, true, true, true, false, true, true, true, false, false, false] (by kernel_rfl) ?_
              refine ED.one 11 3 #[true, true, true, true, true, true, true, true, true, true, true, true, true, true, true, false, false, false] (by kernel_rfl) (by kernel_rfl) (by kernel_rfl) (EO.Y (YO.loadHole hS 3 ad1148 (j := a915) rfl h1146 87 63 (by kernel_rfl) (by kernel_rfl) (by kernel_rfl) (by kernel_rfl)) ?_)
              have hC : Core B [Ass.own 3 (Kd.int .i64) A912 C913 l911] [] _ := ⟨_, _, hS.re [4] [] rfl sub_self⟩
              refine ⟨hC, ?_⟩
              refine ED.one 15 2 #[true, true, true, true, true, true, true, true, true, true, true, true, true, true, true, true, false, false] (by kernel_rfl) (by kernel_rfl) (by kernel_rfl) (EO.append hS 87 87 75 32 1 kS75 A1149 C1150 (l907.getD a915.toNat []) rfl (some ⟨g1221, 0, none⟩) 1 l1162 (Rd.own 0 75 rfl) l1164 hl1164 (fun A1222 C1223 => Ass.own 75 kS75 (some ⟨g1221, 0, none⟩) 1 l1162 :: Ass.own 75 kS75 A1222 C1223 l1164 :: Ass.box 99 g906 [.slice (some ad1148) l907.length C909, .slice A912 l911.length C913] :: Ass.holed 87 75 kS75 (some ad1148) C909 l907 a915.toNat (A1149, (l907.getD a915.toNat []).length, C1150) :: Ass.own 3 (Kd.int .i64) A912 C913 l911 :: os) 67 (by kernel_rfl) (by kernel_rfl) (by kernel_rfl) (by kernel_rfl) h1163 (fun _ _ => rfl) ?_)
              intro A1222 C1223 w hS
              have hC : Core B [Ass.own 3 (Kd.int .i64) A912 C913 l911] [] _ := ⟨_, _, hS.re [4] [] rfl sub_self⟩
              refine ⟨hC, ?_⟩
              refine ED.Y hN hF hC 16 1 #[true, true, true, true, true, true, true, true, true, true, true, true, true, true, true, true, true, false] (by kernel_rfl) (by kernel_rfl) rfl (fun _ _ _ hS => YO.idx 80 1 ad1148 l907.length C909 .i64 a915 68 (by kernel_rfl) (by kernel_rfl) (by kernel_rfl) (by kernel_rfl) h1146 h1147) ?_
              refine ED.one 17 0 #[true, true, true, true, true, true, true, true, true, true, true, true, true, true, true, true, true, true] (by kernel_rfl) (by kernel_rfl) (by kernel_rfl) (EO.closeEl hS 1 2 ad1148 a915 rfl rfl h1146 l1167 hl1167 (Ass.own 75 kS75 (some ⟨g1221, 0, none⟩) 1 l1162 :: Ass.box 99 g906 [.slice (some ad1148) l907.length C909, .slice A912 l911.length C913] :: Ass.deep 87 75 kS75 (some ad1148) C909 l1167 :: Ass.own 3 (Kd.int .i64) A912 C913 l911 :: os) 87 (by kernel_rfl) (by kernel_rfl) (by kernel_rfl) (by kernel_rfl) rfl ?_)
              intro w hS
              have hS : St B w (Ass.own 75 kS75 (some ⟨g1221, 0, none⟩) 1 l1162 :: Ass.box 99 g906 [.slice (some ad1148) l1167.length C909, .slice A912 l911.length C913] :: Ass.deep 87 75 kS75 (some ad1148) C909 l1167 :: Ass.own 3 (Kd.int .i64) A912 C913 l911 :: os) (rs) := by simpa only [hl1167, List.length_set] using hS
              have hC : Core B [Ass.own 3 (Kd.int .i64) A912 C913 l911] [] _ := ⟨_, _, hS.re [3] [] rfl sub_self⟩
              refine ⟨hC, ?_⟩
              refine ED.keep [8, 9, 54, 55, 56, 59, 60, 61, 62, 65, 66, 68] [(8, .int .i32 t1151), (9, .bool (t1152)), (54, .pointer (some ⟨g906, 0, none⟩)), (55, .slice (some ad1148) l907.length C909), (56, .int .i64 a915), (59, .pointer (some ⟨g906, 0, none⟩)), (60, .slice (some ad1148) l907.length C909), (61, .int .i64 a915), (62, .pointer (some ((ad1148.add (a915.toNat * 1)).add 0))), (65, .agg #[.int .i64 a916, .int .i64 0, .int .i32 0, .int .i64 0]), (66, .slice (some ⟨g1221, 0, none⟩) l1162.length 1), (68, .pointer (some ((ad1148.add (a915.toNat * 1)).add 0)))] (by kernel_rfl) ?_
              refine ED.as' [(8, .int .i32 t1151), (9, .bool (t1152)), (54, .pointer (some ⟨g906, 0, none⟩)), (55, .slice (some ad1148) l1167.length C909), (56, .int .i64 a915), (59, .pointer (some ⟨g906, 0, none⟩)), (60, .slice (some ad1148) l1167.length C909), (61, .int .i64 a915), (62, .pointer (some ((ad1148.add (a915.toNat * 1)).add 0))), (65, .agg #[.int .i64 a916, .int .i64 0, .int .i32 0, .int .i64 0]), (66, .slice (some ⟨g1221, 0, none⟩) l1162.length 1), (68, .pointer (some ((ad1148.add (a915.toNat * 1)).add 0)))] (by simp only [hl1167, List.length_set]) ?_
              refine ED.done (by kernel_rfl) ?_
              refine EQ.to ?_
              refine EQ.keep [8, 9] [(8, .int .i32 t1151), (9, .bool (t1152))] (by kernel_rfl) ?_
              exact fun a ha => ⟨(some ⟨g1221, 0, none⟩), 1, ha, (hS.re [3, 3, 3, 3] [] rfl (sub_self))⟩
          · refine EO.Y (YO.loadHole hS 2 ad1148 (j := a915) rfl h1146 87 63 (by kernel_rfl) (by kernel_rfl) (by kernel_rfl) (by kernel_rfl)) ?_
            have hC : Core B [Ass.own 3 (Kd.int .i64) A912 C913 l911] [] _ := ⟨_, _, hS.re [3] [] rfl sub_self⟩
            refine ⟨hC, ?_⟩
            refine ED.at' #[true, true, true, false, true, true, true, true, true, true, true, true, true, true, false, false, false, false] (by kernel_rfl) ?_
            refine ED.two 3 14 4 (by kernel_rfl) (by kernel_rfl) ?_ ?_
            · refine EO.Y (YO.loadBox hS 1 rfl 80 0 1 (.slice (some ad1148) l907.length C909) 55 (by kernel_rfl) (by kernel_rfl) (by kernel_rfl) (by kernel_rfl)) ?_
              have hC : Core B [Ass.own 3 (Kd.int .i64) A912 C913 l911] [] _ := ⟨_, _, hS.re [3] [] rfl sub_self⟩
              refine ⟨hC, ?_⟩
              refine ED.at' #[true, true, true, true, true, true, true, true, true, true, true, true, true, true, false, false, false, false] (by kernel_rfl) ?_
              refine ED.one 14 3 #[true, true, true, true, true, true, true, true, true, true, true, true, true, true, true, false, false, false] (by kernel_rfl) (by kernel_rfl) (by kernel_rfl) (EO.lit hS kS75 75 87 1 #[(0, .agg #[.int .i64 a916, .int .i64 0, .int .i32 0, .int .i64 0])] [.int .i64 a916, .int .i64 0, .int .i32 0, .int .i64 0] l1162 66 (by kernel_rfl) (by kernel_rfl) (by kernel_rfl) (fun _ => (by kernel_rfl)) (by rw [hl1162]; rfl) (by kernel_rfl) (fun w G hr => (by rw [hl1162]; exact ⟨[.int .i64 a916, .int .i64 0, .int .i32 0, .int .i64 0], [], rfl, ⟨[.int .i64 a916], [.int .i64 0, .int .i32 0, .int .i64 0], rfl, rfl, ⟨[.int .i64 0], [.int .i32 0, .int .i64 0], rfl, rfl, ⟨[.int .i32 0], [.int .i64 0], rfl, rfl, ⟨[.int .i64 0], [], rfl, rfl, rfl⟩⟩⟩⟩, rfl⟩)) ?_)
              intro g1224 w hS
              have hC : Core B [Ass.own 3 (Kd.int .i64) A912 C913 l911] [] _ := ⟨_, _, hS.re [4] [] rfl sub_self⟩
              refine ⟨hC, ?_⟩
              refine ED.one 15 2 #[true, true, true, true, true, true, true, true, true, true, true, true, true, true, true, true, false, false] (by kernel_rfl) (by kernel_rfl) (by kernel_rfl) (EO.append hS 87 87 75 32 1 kS75 A1149 C1150 (l907.getD a915.toNat []) rfl (some ⟨g1224, 0, none⟩) 1 l1162 (Rd.own 0 75 rfl) l1164 hl1164 (fun A1225 C1226 => Ass.own 75 kS75 (some ⟨g1224, 0, none⟩) 1 l1162 :: Ass.own 75 kS75 A1225 C1226 l1164 :: Ass.box 99 g906 [.slice (some ad1148) l907.length C909, .slice A912 l911.length C913] :: Ass.holed 87 75 kS75 (some ad1148) C909 l907 a915.toNat (A1149, (l907.getD a915.toNat []).length, C1150) :: Ass.own 3 (Kd.int .i64) A912 C913 l911 :: os) 67 (by kernel_rfl) (by kernel_rfl) (by kernel_rfl) (by kernel_rfl) h1163 (fun _ _ => rfl) ?_)
              intro A1225 C1226 w hS
              have hC : Core B [Ass.own 3 (Kd.int .i64) A912 C913 l911] [] _ := ⟨_, _, hS.re [4] [] rfl sub_self⟩
              refine ⟨hC, ?_⟩
              refine ED.Y hN hF hC 16 1 #[true, true, true, true, true, true, true, true, true, true, true, true, true, true, true, true, true, false] (by kernel_rfl) (by kernel_rfl) rfl (fun _ _ _ hS => YO.idx 80 1 ad1148 l907.length C909 .i64 a915 68 (by kernel_rfl) (by kernel_rfl) (by kernel_rfl) (by kernel_rfl) h1146 h1147) ?_
              refine ED.one 17 0 #[true, true, true, true, true, true, true, true, true, true, true, true, true, true, true, true, true, true] (by kernel_rfl) (by kernel_rfl) (by kernel_rfl) (EO.closeEl hS 1 2 ad1148 a915 rfl rfl h1146 l1167 hl1167 (Ass.own 75 kS75 (some ⟨g1224, 0, none⟩) 1 l1162 :: Ass.box 99 g906 [.slice (some ad1148) l907.length C909, .slice A912 l911.length C913] :: Ass.deep 87 75 kS75 (some ad1148) C909 l1167 :: Ass.own 3 (Kd.int .i64) A912 C913 l911 :: os) 87 (by kernel_rfl) (by kernel_rfl) (by kernel_rfl) (by kernel_rfl) rfl ?_)
              intro w hS
              have hS : St B w (Ass.own 75 kS75 (some ⟨g1224, 0, none⟩) 1 l1162 :: Ass.box 99 g906 [.slice (some ad1148) l1167.length C909, .slice A912 l911.length C913] :: Ass.deep 87 75 kS75 (some ad1148) C909 l1167 :: Ass.own 3 (Kd.int .i64) A912 C913 l911 :: os) (rs) := by simpa only [hl1167, List.length_set] using hS
              have hC : Core B [Ass.own 3 (Kd.int .i64) A912 C913 l911] [] _ := ⟨_, _, hS.re [3] [] rfl sub_self⟩
              refine ⟨hC, ?_⟩
              refine ED.keep [8, 9, 54, 55, 56, 59, 60, 61, 62, 65, 66, 68] [(8, .int .i32 t1151), (9, .bool (t1152)), (54, .pointer (some ⟨g906, 0, none⟩)), (55, .slice (some ad1148) l907.length C909), (56, .int .i64 a915), (59, .pointer (some ⟨g906, 0, none⟩)), (60, .slice (some ad1148) l907.length C909), (61, .int .i64 a915), (62, .pointer (some ((ad1148.add (a915.toNat * 1)).add 0))), (65, .agg #[.int .i64 a916, .int .i64 0, .int .i32 0, .int .i64 0]), (66, .slice (some ⟨g1224, 0, none⟩) l1162.length 1), (68, .pointer (some ((ad1148.add (a915.toNat * 1)).add 0)))] (by kernel_rfl) ?_
              refine ED.as' [(8, .int .i32 t1151), (9, .bool (t1152)), (54, .pointer (some ⟨g906, 0, none⟩)), (55, .slice (some ad1148) l1167.length C909), (56, .int .i64 a915), (59, .pointer (some ⟨g906, 0, none⟩)), (60, .slice (some ad1148) l1167.length C909), (61, .int .i64 a915), (62, .pointer (some ((ad1148.add (a915.toNat * 1)).add 0))), (65, .agg #[.int .i64 a916, .int .i64 0, .int .i32 0, .int .i64 0]), (66, .slice (some ⟨g1224, 0, none⟩) l1162.length 1), (68, .pointer (some ((ad1148.add (a915.toNat * 1)).add 0)))] (by simp only [hl1167, List.length_set]) ?_
              refine ED.done (by kernel_rfl) ?_
              refine EQ.to ?_
              refine EQ.keep [8, 9] [(8, .int .i32 t1151), (9, .bool (t1152))] (by kernel_rfl) ?_
              exact fun a ha => ⟨(some ⟨g1224, 0, none⟩), 1, ha, (hS.re [3, 3, 3, 3] [] rfl (sub_self))⟩
            · refine EO.lit hS kS75 75 87 1 #[(0, .agg #[.int .i64 a916, .int .i64 0, .int .i32 0, .int .i64 0])] [.int .i64 a916, .int .i64 0, .int .i32 0, .int .i64 0] l1162 66 (by kernel_rfl) (by kernel_rfl) (by kernel_rfl) (fun _ => (by kernel_rfl)) (by rw [hl1162]; rfl) (by kernel_rfl) (fun w G hr => (by rw [hl1162]; exact ⟨[.int .i64 a916, .int .i64 0, .int .i32 0, .int .i64 0], [], rfl, ⟨[.int .i64 a916], [.int .i64 0, .int .i32 0, .int .i64 0], rfl, rfl, ⟨[.int .i64 0], [.int .i32 0, .int .i64 0], rfl, rfl, ⟨[.int .i32 0], [.int .i64 0], rfl, rfl, ⟨[.int .i64 0], [], rfl, rfl, rfl⟩⟩⟩⟩, rfl⟩)) ?_
              intro g1227 w hS
              have hC : Core B [Ass.own 3 (Kd.int .i64) A912 C913 l911] [] _ := ⟨_, _, hS.re [4] [] rfl sub_self⟩
              refine ⟨hC, ?_⟩
              refine ED.at' #[true, true, true, false, true, true, true, true, true, true, true, true, true, true, true, false, false, false] (by kernel_rfl) ?_
              refine ED.two 3 15 3 (by kernel_rfl) (by kernel_rfl) ?_ ?_
              · refine EO.Y (YO.loadBox hS 2 rfl 80 0 1 (.slice (some ad1148) l907.length C909) 55 (by kernel_rfl) (by kernel_rfl) (by kernel_rfl) (by kernel_rfl)) ?_
                have hC : Core B [Ass.own 3 (Kd.int .i64) A912 C913 l911] [] _ := ⟨_, _, hS.re [4] [] rfl sub_self⟩
                refine ⟨hC, ?_⟩
                refine ED.at' #[true, true, true, true, true, true, true, true, true, true, true, true, true, true, true, false, false, false] (by kernel_rfl) ?_
                refine ED.one 15 2 #[true, true, true, true, true, true, true, true, true, true, true, true, true, true, true, true, false, false] (by kernel_rfl) (by kernel_rfl) (by kernel_rfl) (EO.append hS 87 87 75 32 1 kS75 A1149 C1150 (l907.getD a915.toNat []) rfl (some ⟨g1227, 0, none⟩) 1 l1162 (Rd.own 0 75 rfl) l1164 hl1164 (fun A1228 C1229 => Ass.own 75 kS75 (some ⟨g1227, 0, none⟩) 1 l1162 :: Ass.own 75 kS75 A1228 C1229 l1164 :: Ass.box 99 g906 [.slice (some ad1148) l907.length C909, .slice A912 l911.length C913] :: Ass.holed 87 75 kS75 (some ad1148) C909 l907 a915.toNat (A1149, (l907.getD a915.toNat []).length, C1150) :: Ass.own 3 (Kd.int .i64) A912 C913 l911 :: os) 67 (by kernel_rfl) (by kernel_rfl) (by kernel_rfl) (by kernel_rfl) h1163 (fun _ _ => rfl) ?_)
                intro A1228 C1229 w hS
                have hC : Core B [Ass.own 3 (Kd.int .i64) A912 C913 l911] [] _ := ⟨_, _, hS.re [4] [] rfl sub_self⟩
                refine ⟨hC, ?_⟩
                refine ED.Y hN hF hC 16 1 #[true, true, true, true, true, true, true, true, true, true, true, true, true, true, true, true, true, false] (by kernel_rfl) (by kernel_rfl) rfl (fun _ _ _ hS => YO.idx 80 1 ad1148 l907.length C909 .i64 a915 68 (by kernel_rfl) (by kernel_rfl) (by kernel_rfl) (by kernel_rfl) h1146 h1147) ?_
                refine ED.one 17 0 #[true, true, true, true, true, true, true, true, true, true, true, true, true, true, true, true, true, true] (by kernel_rfl) (by kernel_rfl) (by kernel_rfl) (EO.closeEl hS 1 2 ad1148 a915 rfl rfl h1146 l1167 hl1167 (Ass.own 75 kS75 (some ⟨g1227, 0, none⟩) 1 l1162 :: Ass.box 99 g906 [.slice (some ad1148) l907.length C909, .slice A912 l911.length C913] :: Ass.deep 87 75 kS75 (some ad1148) C909 l1167 :: Ass.own 3 (Kd.int .i64) A912 C913 l911 :: os) 87 (by kernel_rfl) (by kernel_rfl) (by kernel_rfl) (by kernel_rfl) rfl ?_)
                intro w hS
                have hS : St B w (Ass.own 75 kS75 (some ⟨g1227, 0, none⟩) 1 l1162 :: Ass.box 99 g906 [.slice (some ad1148) l1167.length C909, .slice A912 l911.length C913] :: Ass.deep 87 75 kS75 (some ad1148) C909 l1167 :: Ass.own 3 (Kd.int .i64) A912 C913 l911 :: os) (rs) := by simpa only [hl1167, List.length_set] using hS
                have hC : Core B [Ass.own 3 (Kd.int .i64) A912 C913 l911] [] _ := ⟨_, _, hS.re [3] [] rfl sub_self⟩
                refine ⟨hC, ?_⟩
                refine ED.keep [8, 9, 54, 55, 56, 59, 60, 61, 62, 65, 66, 68] [(8, .int .i32 t1151), (9, .bool (t1152)), (54, .pointer (some ⟨g906, 0, none⟩)), (55, .slice (some ad1148) l907.length C909), (56, .int .i64 a915), (59, .pointer (some ⟨g906, 0, none⟩)), (60, .slice (some ad1148) l907.length C909), (61, .int .i64 a915), (62, .pointer (some ((ad1148.add (a915.toNat * 1)).add 0))), (65, .agg #[.int .i64 a916, .int .i64 0, .int .i32 0, .int .i64 0]), (66, .slice (some ⟨g1227, 0, none⟩) l1162.length 1), (68, .pointer (some ((ad1148.add (a915.toNat * 1)).add 0)))] (by kernel_rfl) ?_
                refine ED.as' [(8, .int .i32 t1151), (9, .bool (t1152)), (54, .pointer (some ⟨g906, 0, none⟩)), (55, .slice (some ad1148) l1167.length C909), (56, .int .i64 a915), (59, .pointer (some ⟨g906, 0, none⟩)), (60, .slice (some ad1148) l1167.length C909), (61, .int .i64 a915), (62, .pointer (some ((ad1148.add (a915.toNat * 1)).add 0))), (65, .agg #[.int .i64 a916, .int .i64 0, .int .i32 0, .int .i64 0]), (66, .slice (some ⟨g1227, 0, none⟩) l1162.length 1), (68, .pointer (some ((ad1148.add (a915.toNat * 1)).add 0)))] (by simp only [hl1167, List.length_set]) ?_
                refine ED.done (by kernel_rfl) ?_
                refine EQ.to ?_
                refine EQ.keep [8, 9] [(8, .int .i32 t1151), (9, .bool (t1152))] (by kernel_rfl) ?_
                exact fun a ha => ⟨(some ⟨g1227, 0, none⟩), 1, ha, (hS.re [3, 3, 3, 3] [] rfl (sub_self))⟩
              · refine EO.append hS 87 87 75 32 1 kS75 A1149 C1150 (l907.getD a915.toNat []) rfl (some ⟨g1227, 0, none⟩) 1 l1162 (Rd.own 0 75 rfl) l1164 hl1164 (fun A1230 C1231 => Ass.own 75 kS75 (some ⟨g1227, 0, none⟩) 1 l1162 :: Ass.own 75 kS75 A1230 C1231 l1164 :: Ass.box 99 g906 [.slice (some ad1148) l907.length C909, .slice A912 l911.length C913] :: Ass.holed 87 75 kS75 (some ad1148) C909 l907 a915.toNat (A1149, (l907.getD a915.toNat []).length, C1150) :: Ass.own 3 (Kd.int .i64) A912 C913 l911 :: os) 67 (by kernel_rfl) (by kernel_rfl) (by kernel_rfl) (by kernel_rfl) h1163 (fun _ _ => rfl) ?_
                intro A1230 C1231 w hS
                have hC : Core B [Ass.own 3 (Kd.int .i64) A912 C913 l911] [] _ := ⟨_, _, hS.re [4] [] rfl sub_self⟩
                refine ⟨hC, ?_⟩
                refine ED.at' #[true, true, true, false, true, true, true, true, true, true, true, true, true, true, true, true, false, false] (by kernel_rfl) ?_
                refine ED.one 3 2 #[true, true, true, true, true, true, true, true, true, true, true, true, true, true, true, true, false, false] (by kernel_rfl) (by kernel_rfl) (by kernel_rfl) (EO.Y (YO.loadBox hS 2 rfl 80 0 1 (.slice (some ad1148) l907.length C909) 55 (by kernel_rfl) (by kernel_rfl) (by kernel_rfl) (by kernel_rfl)) ?_)
                have hC : Core B [Ass.own 3 (Kd.int .i64) A912 C913 l911] [] _ := ⟨_, _, hS.re [4] [] rfl sub_self⟩
                refine ⟨hC, ?_⟩
                refine ED.Y hN hF hC 16 1 #[true, true, true, true, true, true, true, true, true, true, true, true, true, true, true, true, true, false] (by kernel_rfl) (by kernel_rfl) rfl (fun _ _ _ hS => YO.idx 80 1 ad1148 l907.length C909 .i64 a915 68 (by kernel_rfl) (by kernel_rfl) (by kernel_rfl) (by kernel_rfl) h1146 h1147) ?_
                refine ED.one 17 0 #[true, true, true, true, true, true, true, true, true, true, true, true, true, true, true, true, true, true] (by kernel_rfl) (by kernel_rfl) (by kernel_rfl) (EO.closeEl hS 1 2 ad1148 a915 rfl rfl h1146 l1167 hl1167 (Ass.own 75 kS75 (some ⟨g1227, 0, none⟩) 1 l1162 :: Ass.box 99 g906 [.slice (some ad1148) l907.length C909, .slice A912 l911.length C913] :: Ass.deep 87 75 kS75 (some ad1148) C909 l1167 :: Ass.own 3 (Kd.int .i64) A912 C913 l911 :: os) 87 (by kernel_rfl) (by kernel_rfl) (by kernel_rfl) (by kernel_rfl) rfl ?_)
                intro w hS
                have hS : St B w (Ass.own 75 kS75 (some ⟨g1227, 0, none⟩) 1 l1162 :: Ass.box 99 g906 [.slice (some ad1148) l1167.length C909, .slice A912 l911.length C913] :: Ass.deep 87 75 kS75 (some ad1148) C909 l1167 :: Ass.own 3 (Kd.int .i64) A912 C913 l911 :: os) (rs) := by simpa only [hl1167, List.length_set] using hS
                have hC : Core B [Ass.own 3 (Kd.int .i64) A912 C913 l911] [] _ := ⟨_, _, hS.re [3] [] rfl sub_self⟩
                refine ⟨hC, ?_⟩
                refine ED.keep [8, 9, 54, 55, 56, 59, 60, 61, 62, 65, 66, 68] [(8, .int .i32 t1151), (9, .bool (t1152)), (54, .pointer (some ⟨g906, 0, none⟩)), (55, .slice (some ad1148) l907.length C909), (56, .int .i64 a915), (59, .pointer (some ⟨g906, 0, none⟩)), (60, .slice (some ad1148) l907.length C909), (61, .int .i64 a915), (62, .pointer (some ((ad1148.add (a915.toNat * 1)).add 0))), (65, .agg #[.int .i64 a916, .int .i64 0, .int .i32 0, .int .i64 0]), (66, .slice (some ⟨g1227, 0, none⟩) l1162.length 1), (68, .pointer (some ((ad1148.add (a915.toNat * 1)).add 0)))] (by kernel_rfl) ?_
                refine ED.as' [(8, .int .i32 t1151), (9, .bool (t1152)), (54, .pointer (some ⟨g906, 0, none⟩)), (55, .slice (some ad1148) l1167.length C909), (56, .int .i64 a915), (59, .pointer (some ⟨g906, 0, none⟩)), (60, .slice (some ad1148) l1167.length C909), (61, .int .i64 a915), (62, .pointer (some ((ad1148.add (a915.toNat * 1)).add 0))), (65, .agg #[.int .i64 a916, .int .i64 0, .int .i32 0, .int .i64 0]), (66, .slice (some ⟨g1227, 0, none⟩) l1162.length 1), (68, .pointer (some ((ad1148.add (a915.toNat * 1)).add 0)))] (by simp only [hl1167, List.length_set]) ?_
                refine ED.done (by kernel_rfl) ?_
                refine EQ.to ?_
                refine EQ.keep [8, 9] [(8, .int .i32 t1151), (9, .bool (t1152))] (by kernel_rfl) ?_
                exact fun a ha => ⟨(some ⟨g1227, 0, none⟩), 1, ha, (hS.re [3, 3, 3, 3] [] rfl (sub_self))⟩
          · refine EO.lit hS kS75 75 87 1 #[(0, .agg #[.int .i64 a916, .int .i64 0, .int .i32 0, .int .i64 0])] [.int .i64 a916, .int .i64 0, .int .i32 0, .int .i64 0] l1162 66 (by kernel_rfl) (by kernel_rfl) (by kernel_rfl) (fun _ => (by kernel_rfl)) (by rw [hl1162]; rfl) (by kernel_rfl) (fun w G hr => (by rw [hl1162]; exact ⟨[.int .i64 a916, .int .i64 0, .int .i32 0, .int .i64 0], [], rfl, ⟨[.int .i64 a916], [.int .i64 0, .int .i32 0, .int .i64 0], rfl, rfl, ⟨[.int .i64 0], [.int .i32 0, .int .i64 0], rfl, rfl, ⟨[.int .i32 0], [.int .i64 0], rfl, rfl, ⟨[.int .i64 0], [], rfl, rfl, rfl⟩⟩⟩⟩, rfl⟩)) ?_
            intro g1232 w hS
            have hC : Core B [Ass.own 3 (Kd.int .i64) A912 C913 l911] [] _ := ⟨_, _, hS.re [4] [] rfl sub_self⟩
            refine ⟨hC, ?_⟩
            refine ED.at' #[true, true, true, false, true, true, true, true, true, true, true, false, true, true, true, false, false, false] (by kernel_rfl) ?_
            refine ED.two 3 11 4 (by kernel_rfl) (by kernel_rfl) ?_ ?_
            · refine EO.Y (YO.loadBox hS 2 rfl 80 0 1 (.slice (some ad1148) l907.length C909) 55 (by kernel_rfl) (by kernel_rfl) (by kernel_rfl) (by kernel_rfl)) ?_
              have hC : Core B [Ass.own 3 (Kd.int .i64) A912 C913 l911] [] _ := ⟨_, _, hS.re [4] [] rfl sub_self⟩
              refine ⟨hC, ?_⟩
              refine ED.at' #[true, true, true, true, true, true, true, true, true, true, true, false, true, true, true, false, false, false] (by kernel_rfl) ?_
              refine ED.one 11 3 #[true, true, true, true, true, true, true, true, true, true, true, true, true, true, true, false, false, false] (by kernel_rfl) (by kernel_rfl) (by kernel_rfl) (EO.Y (YO.loadHole hS 3 ad1148 (j := a915) rfl h1146 87 63 (by kernel_rfl) (by kernel_rfl) (by kernel_rfl) (by kernel_rfl)) ?_)
              have hC : Core B [Ass.own 3 (Kd.int .i64) A912 C913 l911] [] _ := ⟨_, _, hS.re [4] [] rfl sub_self⟩
              refine ⟨hC, ?_⟩
              refine ED.one 15 2 #[true, true, true, true, true, true, true, true, true, true, true, true, true, true, true, true, false, false] (by kernel_rfl) (by kernel_rfl) (by kernel_rfl) (EO.append hS 87 87 75 32 1 kS75 A1149 C1150 (l907.getD a915.toNat []) rfl (some ⟨g1232, 0, none⟩) 1 l1162 (Rd.own 0 75 rfl) l1164 hl1164 (fun A1233 C1234 => Ass.own 75 kS75 (some ⟨g1232, 0, none⟩) 1 l1162 :: Ass.own 75 kS75 A1233 C1234 l1164 :: Ass.box 99 g906 [.slice (some ad1148) l907.length C909, .slice A912 l911.length C913] :: Ass.holed 87 75 kS75 (some ad1148) C909 l907 a915.toNat (A1149, (l907.getD a915.toNat []).length, C1150) :: Ass.own 3 (Kd.int .i64) A912 C913 l911 :: os) 67 (by kernel_rfl) (by kernel_rfl) (by kernel_rfl) (by kernel_rfl) h1163 (fun _ _ => rfl) ?_)
              intro A1233 C1234 w hS
              have hC : Core B [Ass.own 3 (Kd.int .i64) A912 C913 l911] [] _ := ⟨_, _, hS.re [4] [] rfl sub_self⟩
              refine ⟨hC, ?_⟩
              refine ED.Y hN hF hC 16 1 #[true, true, true, true, true, true, true, true, true, true, true, true, true, true, true, true, true, false] (by kernel_rfl) (by kernel_rfl) rfl (fun _ _ _ hS => YO.idx 80 1 ad1148 l907.length C909 .i64 a915 68 (by kernel_rfl) (by kernel_rfl) (by kernel_rfl) (by kernel_rfl) h1146 h1147) ?_
              refine ED.one 17 0 #[true, true, true, true, true, true, true, true, true, true, true, true, true, true, true, true, true, true] (by kernel_rfl) (by kernel_rfl) (by kernel_rfl) (EO.closeEl hS 1 2 ad1148 a915 rfl rfl h1146 l1167 hl1167 (Ass.own 75 kS75 (some ⟨g1232, 0, none⟩) 1 l1162 :: Ass.box 99 g906 [.slice (some ad1148) l907.length C909, .slice A912 l911.length C913] :: Ass.deep 87 75 kS75 (some ad1148) C909 l1167 :: Ass.own 3 (Kd.int .i64) A912 C913 l911 :: os) 87 (by kernel_rfl) (by kernel_rfl) (by kernel_rfl) (by kernel_rfl) rfl ?_)
              intro w hS
              have hS : St B w (Ass.own 75 kS75 (some ⟨g1232, 0, none⟩) 1 l1162 :: Ass.box 99 g906 [.slice (some ad1148) l1167.length C909, .slice A912 l911.length C913] :: Ass.deep 87 75 kS75 (some ad1148) C909 l1167 :: Ass.own 3 (Kd.int .i64) A912 C913 l911 :: os) (rs) := by simpa only [hl1167, List.length_set] using hS
              have hC : Core B [Ass.own 3 (Kd.int .i64) A912 C913 l911] [] _ := ⟨_, _, hS.re [3] [] rfl sub_self⟩
              refine ⟨hC, ?_⟩
              refine ED.keep [8, 9, 54, 55, 56, 59, 60, 61, 62, 65, 66, 68] [(8, .int .i32 t1151), (9, .bool (t1152)), (54, .pointer (some ⟨g906, 0, none⟩)), (55, .slice (some ad1148) l907.length C909), (56, .int .i64 a915), (59, .pointer (some ⟨g906, 0, none⟩)), (60, .slice (some ad1148) l907.length C909), (61, .int .i64 a915), (62, .pointer (some ((ad1148.add (a915.toNat * 1)).add 0))), (65, .agg #[.int .i64 a916, .int .i64 0, .int .i32 0, .int .i64 0]), (66, .slice (some ⟨g1232, 0, none⟩) l1162.length 1), (68, .pointer (some ((ad1148.add (a915.toNat * 1)).add 0)))] (by kernel_rfl) ?_
              refine ED.as' [(8, .int .i32 t1151), (9, .bool (t1152)), (54, .pointer (some ⟨g906, 0, none⟩)), (55, .slice (some ad1148) l1167.length C909), (56, .int .i64 a915), (59, .pointer (some ⟨g906, 0, none⟩)), (60, .slice (some ad1148) l1167.length C909), (61, .int .i64 a915), (62, .pointer (some ((ad1148.add (a915.toNat * 1)).add 0))), (65, .agg #[.int .i64 a916, .int .i64 0, .int .i32 0, .int .i64 0]), (66, .slice (some ⟨g1232, 0, none⟩) l1162.length 1), (68, .pointer (some ((ad1148.add (a915.toNat * 1)).add 0)))] (by simp only [hl1167, List.length_set]) ?_
              refine ED.done (by kernel_rfl) ?_
              refine EQ.to ?_
              refine EQ.keep [8, 9] [(8, .int .i32 t1151), (9, .bool (t1152))] (by kernel_rfl) ?_
              exact fun a ha => ⟨(some ⟨g1232, 0, none⟩), 1, ha, (hS.re [3, 3, 3, 3] [] rfl (sub_self))⟩
            · refine EO.Y (YO.loadHole hS 3 ad1148 (j := a915) rfl h1146 87 63 (by kernel_rfl) (by kernel_rfl) (by kernel_rfl) (by kernel_rfl)) ?_
              have hC : Core B [Ass.own 3 (Kd.int .i64) A912 C913 l911] [] _ := ⟨_, _, hS.re [4] [] rfl sub_self⟩
              refine ⟨hC, ?_⟩
              refine ED.at' #[true, true, true, false, true, true, true, true, true, true, true, true, true, true, true, false, false, false] (by kernel_rfl) ?_
              refine ED.two 3 15 3 (by kernel_rfl) (by kernel_rfl) ?_ ?_
              · refine EO.Y (YO.loadBox hS 2 rfl 80 0 1 (.slice (some ad1148) l907.length C909) 55 (by kernel_rfl) (by kernel_rfl) (by kernel_rfl) (by kernel_rfl)) ?_
                have hC : Core B [Ass.own 3 (Kd.int .i64) A912 C913 l911] [] _ := ⟨_, _, hS.re [4] [] rfl sub_self⟩
                refine ⟨hC, ?_⟩
                refine ED.at' #[true, true, true, true, true, true, true, true, true, true, true, true, true, true, true, false, false, false] (by kernel_rfl) ?_
                refine ED.one 15 2 #[true, true, true, true, true, true, true, true, true, true, true, true, true, true, true, true, false, false] (by kernel_rfl) (by kernel_rfl) (by kernel_rfl) (EO.append hS 87 87 75 32 1 kS75 A1149 C1150 (l907.getD a915.toNat []) rfl (some ⟨g1232, 0, none⟩) 1 l1162 (Rd.own 0 75 rfl) l1164 hl1164 (fun A1235 C1236 => Ass.own 75 kS75 (some ⟨g1232, 0, none⟩) 1 l1162 :: Ass.own 75 kS75 A1235 C1236 l1164 :: Ass.box 99 g906 [.slice (some ad1148) l907.length C909, .slice A912 l911.length C913] :: Ass.holed 87 75 kS75 (some ad1148) C909 l907 a915.toNat (A1149, (l907.getD a915.toNat []).length, C1150) :: Ass.own 3 (Kd.int .i64) A912 C913 l911 :: os) 67 (by kernel_rfl) (by kernel_rfl) (by kernel_rfl) (by kernel_rfl) h1163 (fun _ _ => rfl) ?_)
                intro A1235 C1236 w hS
                have hC : Core B [Ass.own 3 (Kd.int .i64) A912 C913 l911] [] _ := ⟨_, _, hS.re [4] [] rfl sub_self⟩
                refine ⟨hC, ?_⟩
                refine ED.Y hN hF hC 16 1 #[true, true, true, true, true, true, true, true, true, true, true, true, true, true, true, true, true, false] (by kernel_rfl) (by kernel_rfl) rfl (fun _ _ _ hS => YO.idx 80 1 ad1148 l907.length C909 .i64 a915 68 (by kernel_rfl) (by kernel_rfl) (by kernel_rfl) (by kernel_rfl) h1146 h1147) ?_
                refine ED.one 17 0 #[true, true, true, true, true, true, true, true, true, true, true, true, true, true, true, true, true, true] (by kernel_rfl) (by kernel_rfl) (by kernel_rfl) (EO.closeEl hS 1 2 ad1148 a915 rfl rfl h1146 l1167 hl1167 (Ass.own 75 kS75 (some ⟨g1232, 0, none⟩) 1 l1162 :: Ass.box 99 g906 [.slice (some ad1148) l907.length C909, .slice A912 l911.length C913] :: Ass.deep 87 75 kS75 (some ad1148) C909 l1167 :: Ass.own 3 (Kd.int .i64) A912 C913 l911 :: os) 87 (by kernel_rfl) (by kernel_rfl) (by kernel_rfl) (by kernel_rfl) rfl ?_)
                intro w hS
                have hS : St B w (Ass.own 75 kS75 (some ⟨g1232, 0, none⟩) 1 l1162 :: Ass.box 99 g906 [.slice (some ad1148) l1167.length C909, .slice A912 l911.length C913] :: Ass.deep 87 75 kS75 (some ad1148) C909 l1167 :: Ass.own 3 (Kd.int .i64) A912 C913 l911 :: os) (rs) := by simpa only [hl1167, List.length_set] using hS
                have hC : Core B [Ass.own 3 (Kd.int .i64) A912 C913 l911] [] _ := ⟨_, _, hS.re [3] [] rfl sub_self⟩
                refine ⟨hC, ?_⟩
                refine ED.keep [8, 9, 54, 55, 56, 59, 60, 61, 62, 65, 66, 68] [(8, .int .i32 t1151), (9, .bool (t1152)), (54, .pointer (some ⟨g906, 0, none⟩)), (55, .slice (some ad1148) l907.length C909), (56, .int .i64 a915), (59, .pointer (some ⟨g906, 0, none⟩)), (60, .slice (some ad1148) l907.length C909), (61, .int .i64 a915), (62, .pointer (some ((ad1148.add (a915.toNat * 1)).add 0))), (65, .agg #[.int .i64 a916, .int .i64 0, .int .i32 0, .int .i64 0]), (66, .slice (some ⟨g1232, 0, none⟩) l1162.length 1), (68, .pointer (some ((ad1148.add (a915.toNat * 1)).add 0)))] (by kernel_rfl) ?_
                refine ED.as' [(8, .int .i32 t1151), (9, .bool (t1152)), (54, .pointer (some ⟨g906, 0, none⟩)), (55, .slice (some ad1148) l1167.length C909), (56, .int .i64 a915), (59, .pointer (some ⟨g906, 0, none⟩)), (60, .slice (some ad1148) l1167.length C909), (61, .int .i64 a915), (62, .pointer (some ((ad1148.add (a915.toNat * 1)).add 0))), (65, .agg #[.int .i64 a916, .int .i64 0, .int .i32 0, .int .i64 0]), (66, .slice (some ⟨g1232, 0, none⟩) l1162.length 1), (68, .pointer (some ((ad1148.add (a915.toNat * 1)).add 0)))] (by simp only [hl1167, List.length_set]) ?_
                refine ED.done (by kernel_rfl) ?_
                refine EQ.to ?_
                refine EQ.keep [8, 9] [(8, .int .i32 t1151), (9, .bool (t1152))] (by kernel_rfl) ?_
                exact fun a ha => ⟨(some ⟨g1232, 0, none⟩), 1, ha, (hS.re [3, 3, 3, 3] [] rfl (sub_self))⟩
              · refine EO.append hS 87 87 75 32 1 kS75 A1149 C1150 (l907.getD a915.toNat []) rfl (some ⟨g1232, 0, none⟩) 1 l1162 (Rd.own 0 75 rfl) l1164 hl1164 (fun A1237 C1238 => Ass.own 75 kS75 (some ⟨g1232, 0, none⟩) 1 l1162 :: Ass.own 75 kS75 A1237 C1238 l1164 :: Ass.box 99 g906 [.slice (some ad1148) l907.length C909, .slice A912 l911.length C913] :: Ass.holed 87 75 kS75 (some ad1148) C909 l907 a915.toNat (A1149, (l907.getD a915.toNat []).length, C1150) :: Ass.own 3 (Kd.int .i64) A912 C913 l911 :: os) 67 (by kernel_rfl) (by kernel_rfl) (by kernel_rfl) (by kernel_rfl) h1163 (fun _ _ => rfl) ?_
                intro A1237 C1238 w hS
                have hC : Core B [Ass.own 3 (Kd.int .i64) A912 C913 l911] [] _ := ⟨_, _, hS.re [4] [] rfl sub_self⟩
                refine ⟨hC, ?_⟩
                refine ED.at' #[true, true, true, false, true, true, true, true, true, true, true, true, true, true, true, true, false, false] (by kernel_rfl) ?_
                refine ED.one 3 2 #[true, true, true, true, true, true, true, true, true, true, true, true, true, true, true, true, false, false] (by kernel_rfl) (by kernel_rfl) (by kernel_rfl) (EO.Y (YO.loadBox hS 2 rfl 80 0 1 (.slice (some ad1148) l907.length C909) 55 (by kernel_rfl) (by kernel_rfl) (by kernel_rfl) (by kernel_rfl)) ?_)
                have hC : Core B [Ass.own 3 (Kd.int .i64) A912 C913 l911] [] _ := ⟨_, _, hS.re [4] [] rfl sub_self⟩
                refine ⟨hC, ?_⟩
                refine ED.Y hN hF hC 16 1 #[true, true, true, true, true, true, true, true, true, true, true, true, true, true, true, true, true, false] (by kernel_rfl) (by kernel_rfl) rfl (fun _ _ _ hS => YO.idx 80 1 ad1148 l907.length C909 .i64 a915 68 (by kernel_rfl) (by kernel_rfl) (by kernel_rfl) (by kernel_rfl) h1146 h1147) ?_
                refine ED.one 17 0 #[true, true, true, true, true, true, true, true, true, true, true, true, true, true, true, true, true, true] (by kernel_rfl) (by kernel_rfl) (by kernel_rfl) (EO.closeEl hS 1 2 ad1148 a915 rfl rfl h1146 l1167 hl1167 (Ass.own 75 kS75 (some ⟨g1232, 0, none⟩) 1 l1162 :: Ass.box 99 g906 [.slice (some ad1148) l907.length C909, .slice A912 l911.length C913] :: Ass.deep 87 75 kS75 (some ad1148) C909 l1167 :: Ass.own 3 (Kd.int .i64) A912 C913 l911 :: os) 87 (by kernel_rfl) (by kernel_rfl) (by kernel_rfl) (by kernel_rfl) rfl ?_)
                intro w hS
                have hS : St B w (Ass.own 75 kS75 (some ⟨g1232, 0, none⟩) 1 l1162 :: Ass.box 99 g906 [.slice (some ad1148) l1167.length C909, .slice A912 l911.length C913] :: Ass.deep 87 75 kS75 (some ad1148) C909 l1167 :: Ass.own 3 (Kd.int .i64) A912 C913 l911 :: os) (rs) := by simpa only [hl1167, List.length_set] using hS
                have hC : Core B [Ass.own 3 (Kd.int .i64) A912 C913 l911] [] _ := ⟨_, _, hS.re [3] [] rfl sub_self⟩
                refine ⟨hC, ?_⟩
                refine ED.keep [8, 9, 54, 55, 56, 59, 60, 61, 62, 65, 66, 68] [(8, .int .i32 t1151), (9, .bool (t1152)), (54, .pointer (some ⟨g906, 0, none⟩)), (55, .slice (some ad1148) l907.length C909), (56, .int .i64 a915), (59, .pointer (some ⟨g906, 0, none⟩)), (60, .slice (some ad1148) l907.length C909), (61, .int .i64 a915), (62, .pointer (some ((ad1148.add (a915.toNat * 1)).add 0))), (65, .agg #[.int .i64 a916, .int .i64 0, .int .i32 0, .int .i64 0]), (66, .slice (some ⟨g1232, 0, none⟩) l1162.length 1), (68, .pointer (some ((ad1148.add (a915.toNat * 1)).add 0)))] (by kernel_rfl) ?_
                refine ED.as' [(8, .int .i32 t1151), (9, .bool (t1152)), (54, .pointer (some ⟨g906, 0, none⟩)), (55, .slice (some ad1148) l1167.length C909), (56, .int .i64 a915), (59, .pointer (some ⟨g906, 0, none⟩)), (60, .slice (some ad1148) l1167.length C909), (61, .int .i64 a915), (62, .pointer (some ((ad1148.add (a915.toNat * 1)).add 0))), (65, .agg #[.int .i64 a916, .int .i64 0, .int .i32 0, .int .i64 0]), (66, .slice (some ⟨g1232, 0, none⟩) l1162.length 1), (68, .pointer (some ((ad1148.add (a915.toNat * 1)).add 0)))] (by simp only [hl1167, List.length_set]) ?_
                refine ED.done (by kernel_rfl) ?_
                refine EQ.to ?_
                refine EQ.keep [8, 9] [(8, .int .i32 t1151), (9, .bool (t1152))] (by kernel_rfl) ?_
                exact fun a ha => ⟨(some ⟨g1232, 0, none⟩), 1, ha, (hS.re [3, 3, 3, 3] [] rfl (sub_self))⟩
        · refine EO.lit hS kS75 75 87 1 #[(0, .agg #[.int .i64 a916, .int .i64 0, .int .i32 0, .int .i64 0])] [.int .i64 a916, .int .i64 0, .int .i32 0, .int .i64 0] l1162 66 (by kernel_rfl) (by kernel_rfl) (by kernel_rfl) (fun _ => (by kernel_rfl)) (by rw [hl1162]; rfl) (by kernel_rfl) (fun w G hr => (by rw [hl1162]; exact ⟨[.int .i64 a916, .int .i64 0, .int .i32 0, .int .i64 0], [], rfl, ⟨[.int .i64 a916], [.int .i64 0, .int .i32 0, .int .i64 0], rfl, rfl, ⟨[.int .i64 0], [.int .i32 0, .int .i64 0], rfl, rfl, ⟨[.int .i32 0], [.int .i64 0], rfl, rfl, ⟨[.int .i64 0], [], rfl, rfl, rfl⟩⟩⟩⟩, rfl⟩)) ?_
          intro g1239 w hS
          have hC : Core B [Ass.own 3 (Kd.int .i64) A912 C913 l911] [] _ := ⟨_, _, hS.re [4] [] rfl sub_self⟩
          refine ⟨hC, ?_⟩
          refine ED.at' #[true, true, true, false, true, true, true, true, false, true, false, false, true, true, true, false, false, false] (by kernel_rfl) ?_
          refine ED.two 3 8 6 (by kernel_rfl) (by kernel_rfl) ?_ ?_
          · refine EO.Y (YO.loadBox hS 2 rfl 80 0 1 (.slice (some ad1148) l907.length C909) 55 (by kernel_rfl) (by kernel_rfl) (by kernel_rfl) (by kernel_rfl)) ?_
            have hC : Core B [Ass.own 3 (Kd.int .i64) A912 C913 l911] [] _ := ⟨_, _, hS.re [4] [] rfl sub_self⟩
            refine ⟨hC, ?_⟩
            refine ED.at' #[true, true, true, true, true, true, true, true, false, true, false, false, true, true, true, false, false, false] (by kernel_rfl) ?_
            refine ED.one 8 5 #[true, true, true, true, true, true, true, true, true, true, false, false, true, true, true, false, false, false] (by kernel_rfl) (by kernel_rfl) (by kernel_rfl) (EO.Y (YO.loadBox hS 2 rfl 80 0 1 (.slice (some ad1148) l907.length C909) 60 (by kernel_rfl) (by kernel_rfl) (by kernel_rfl) (by kernel_rfl)) ?_)
            have hC : Core B [Ass.own 3 (Kd.int .i64) A912 C913 l911] [] _ := ⟨_, _, hS.re [4] [] rfl sub_self⟩
            refine ⟨hC, ?_⟩
            refine ED.Y hN hF hC 10 4 #[true, true, true, true, true, true, true, true, true, true, true, false, true, true, true, false, false, false] (by kernel_rfl) (by kernel_rfl) rfl (fun _ _ _ hS => YO.idx 80 1 ad1148 l907.length C909 .i64 a915 62 (by kernel_rfl) (by kernel_rfl) (by kernel_rfl) (by kernel_rfl) h1146 h1147) ?_
            refine ED.one 11 3 #[true, true, true, true, true, true, true, true, true, true, true, true, true, true, true, false, false, false] (by kernel_rfl) (by kernel_rfl) (by kernel_rfl) (EO.Y (YO.loadHole hS 3 ad1148 (j := a915) rfl h1146 87 63 (by kernel_rfl) (by kernel_rfl) (by kernel_rfl) (by kernel_rfl)) ?_)
            have hC : Core B [Ass.own 3 (Kd.int .i64) A912 C913 l911] [] _ := ⟨_, _, hS.re [4] [] rfl sub_self⟩
            refine ⟨hC, ?_⟩
            refine ED.one 15 2 #[true, true, true, true, true, true, true, true, true, true, true, true, true, true, true, true, false, false] (by kernel_rfl) (by kernel_rfl) (by kernel_rfl) (EO.append hS 87 87 75 32 1 kS75 A1149 C1150 (l907.getD a915.toNat []) rfl (some ⟨g1239, 0, none⟩) 1 l1162 (Rd.own 0 75 rfl) l1164 hl1164 (fun A1240 C1241 => Ass.own 75 kS75 (some ⟨g1239, 0, none⟩) 1 l1162 :: Ass.own 75 kS75 A1240 C1241 l1164 :: Ass.box 99 g906 [.slice (some ad1148) l907.length C909, .slice A912 l911.length C913] :: Ass.holed 87 75 kS75 (some ad1148) C909 l907 a915.toNat (A1149, (l907.getD a915.toNat []).length, C1150) :: Ass.own 3 (Kd.int .i64) A912 C913 l911 :: os) 67 (by kernel_rfl) (by kernel_rfl) (by kernel_rfl) (by kernel_rfl) h1163 (fun _ _ => rfl) ?_)
            intro A1240 C1241 w hS
            have hC : Core B [Ass.own 3 (Kd.int .i64) A912 C913 l911] [] _ := ⟨_, _, hS.re [4] [] rfl sub_self⟩
            refine ⟨hC, ?_⟩
            refine ED.Y hN hF hC 16 1 #[true, true, true, true, true, true, true, true, true, true, true, true, true, true, true, true, true, false] (by kernel_rfl) (by kernel_rfl) rfl (fun _ _ _ hS => YO.idx 80 1 ad1148 l907.length C909 .i64 a915 68 (by kernel_rfl) (by kernel_rfl) (by kernel_rfl) (by kernel_rfl) h1146 h1147) ?_
            refine ED.one 17 0 #[true, true, true, true, true, true, true, true, true, true, true, true, true, true, true, true, true, true] (by kernel_rfl) (by kernel_rfl) (by kernel_rfl) (EO.closeEl hS 1 2 ad1148 a915 rfl rfl h1146 l1167 hl1167 (Ass.own 75 kS75 (some ⟨g1239, 0, none⟩) 1 l1162 :: Ass.box 99 g906 [.slice (some ad1148) l907.length C909, .slice A912 l911.length C913] :: Ass.deep 87 75 kS75 (some ad1148) C909 l1167 :: Ass.own 3 (Kd.int .i64) A912 C913 l911 :: os) 87 (by kernel_rfl) (by kernel_rfl) (by kernel_rfl) (by kernel_rfl) rfl ?_)
            intro w hS
            have hS : St B w (Ass.own 75 kS75 (some ⟨g1239, 0, none⟩) 1 l1162 :: Ass.box 99 g906 [.slice (some ad1148) l1167.length C909, .slice A912 l911.length C913] :: Ass.deep 87 75 kS75 (some ad1148) C909 l1167 :: Ass.own 3 (Kd.int .i64) A912 C913 l911 :: os) (rs) := by simpa only [hl1167, List.length_set] using hS
            have hC : Core B [Ass.own 3 (Kd.int .i64) A912 C913 l911] [] _ := ⟨_, _, hS.re [3] [] rfl sub_self⟩
            refine ⟨hC, ?_⟩
            refine ED.keep [8, 9, 54, 55, 56, 59, 60, 61, 62, 65, 66, 68] [(8, .int .i32 t1151), (9, .bool (t1152)), (54, .pointer (some ⟨g906, 0, none⟩)), (55, .slice (some ad1148) l907.length C909), (56, .int .i64 a915), (59, .pointer (some ⟨g906, 0, none⟩)), (60, .slice (some ad1148) l907.length C909), (61, .int .i64 a915), (62, .pointer (some ((ad1148.add (a915.toNat * 1)).add 0))), (65, .agg #[.int .i64 a916, .int .i64 0, .int .i32 0, .int .i64 0]), (66, .slice (some ⟨g1239, 0, none⟩) l1162.length 1), (68, .pointer (some ((ad1148.add (a915.toNat * 1)).add 0)))] (by kernel_rfl) ?_
            refine ED.as' [(8, .int .i32 t1151), (9, .bool (t1152)), (54, .pointer (some ⟨g906, 0, none⟩)), (55, .slice (some ad1148) l1167.length C909), (56, .int .i64 a915), (59, .pointer (some ⟨g906, 0, none⟩)), (60, .slice (some ad1148) l1167.length C909), (61, .int .i64 a915), (62, .pointer (some ((ad1148.add (a915.toNat * 1)).add 0))), (65, .agg #[.int .i64 a916, .int .i64 0, .int .i32 0, .int .i64 0]), (66, .slice (some ⟨g1239, 0, none⟩) l1162.length 1), (68, .pointer (some ((ad1148.add (a915.toNat * 1)).add 0)))] (by simp only [hl1167, List.length_set]) ?_
            refine ED.done (by kernel_rfl) ?_
            refine EQ.to ?_
            refine EQ.keep [8, 9] [(8, .int .i32 t1151), (9, .bool (t1152))] (by kernel_rfl) ?_
            exact fun a ha => ⟨(some ⟨g1239, 0, none⟩), 1, ha, (hS.re [3, 3, 3, 3] [] rfl (sub_self))⟩
          · refine EO.Y (YO.loadBox hS 2 rfl 80 0 1 (.slice (some ad1148) l907.length C909) 60 (by kernel_rfl) (by kernel_rfl) (by kernel_rfl) (by kernel_rfl)) ?_
            have hC : Core B [Ass.own 3 (Kd.int .i64) A912 C913 l911] [] _ := ⟨_, _, hS.re [4] [] rfl sub_self⟩
            refine ⟨hC, ?_⟩
            refine ED.at' #[true, true, true, false, true, true, true, true, true, true, false, false, true, true, true, false, false, false] (by kernel_rfl) ?_
            refine ED.Y hN hF hC 10 5 #[true, true, true, false, true, true, true, true, true, true, true, false, true, true, true, false, false, false] (by kernel_rfl) (by kernel_rfl) rfl (fun _ _ _ hS => YO.idx 80 1 ad1148 l907.length C909 .i64 a915 62 (by kernel_rfl) (by kernel_rfl) (by kernel_rfl) (by kernel_rfl) h1146 h1147) ?_
            refine ED.two 3 11 4 (by kernel_rfl) (by kernel_rfl) ?_ ?_
            · refine EO.Y (YO.loadBox hS 2 rfl 80 0 1 (.slice (some ad1148) l907.length C909) 55 (by kernel_rfl) (by kernel_rfl) (by kernel_rfl) (by kernel_rfl)) ?_
              have hC : Core B [Ass.own 3 (Kd.int .i64) A912 C913 l911] [] _ := ⟨_, _, hS.re [4] [] rfl sub_self⟩
              refine ⟨hC, ?_⟩
              refine ED.at' #[true, true, true, true, true, true, true, true, true, true, true, false, true, true, true, false, false, false] (by kernel_rfl) ?_
              refine ED.one 11 3 #[true, true, true, true, true, true, true, true, true, true, true, true, true, true, true, false, false, false] (by kernel_rfl) (by kernel_rfl) (by kernel_rfl) (EO.Y (YO.loadHole hS 3 ad1148 (j := a915) rfl h1146 87 63 (by kernel_rfl) (by kernel_rfl) (by kernel_rfl) (by kernel_rfl)) ?_)
              have hC : Core B [Ass.own 3 (Kd.int .i64) A912 C913 l911] [] _ := ⟨_, _, hS.re [4] [] rfl sub_self⟩
              refine ⟨hC, ?_⟩
              refine ED.one 15 2 #[true, true, true, true, true, true, true, true, true, true, true, true, true, true, true, true, false, false] (by kernel_rfl) (by kernel_rfl) (by kernel_rfl) (EO.append hS 87 87 75 32 1 kS75 A1149 C1150 (l907.getD a915.toNat []) rfl (some ⟨g1239, 0, none⟩) 1 l1162 (Rd.own 0 75 rfl) l1164 hl1164 (fun A1242 C1243 => Ass.own 75 kS75 (some ⟨g1239, 0, none⟩) 1 l1162 :: Ass.own 75 kS75 A1242 C1243 l1164 :: Ass.box 99 g906 [.slice (some ad1148) l907.length C909, .slice A912 l911.length C913] :: Ass.holed 87 75 kS75 (some ad1148) C909 l907 a915.toNat (A1149, (l907.getD a915.toNat []).length, C1150) :: Ass.own 3 (Kd.int .i64) A912 C913 l911 :: os) 67 (by kernel_rfl) (by kernel_rfl) (by kernel_rfl) (by kernel_rfl) h1163 (fun _ _ => rfl) ?_)
              intro A1242 C1243 w hS
              have hC : Core B [Ass.own 3 (Kd.int .i64) A912 C913 l911] [] _ := ⟨_, _, hS.re [4] [] rfl sub_self⟩
              refine ⟨hC, ?_⟩
              refine ED.Y hN hF hC 16 1 #[true, true, true, true, true, true, true, true, true, true, true, true, true, true, true, true, true, false] (by kernel_rfl) (by kernel_rfl) rfl (fun _ _ _ hS => YO.idx 80 1 ad1148 l907.length C909 .i64 a915 68 (by kernel_rfl) (by kernel_rfl) (by kernel_rfl) (by kernel_rfl) h1146 h1147) ?_
              refine ED.one 17 0 #[true, true, true, true, true, true, true, true, true, true, true, true, true, true, true, true, true, true] (by kernel_rfl) (by kernel_rfl) (by kernel_rfl) (EO.closeEl hS 1 2 ad1148 a915 rfl rfl h1146 l1167 hl1167 (Ass.own 75 kS75 (some ⟨g1239, 0, none⟩) 1 l1162 :: Ass.box 99 g906 [.slice (some ad1148) l907.length C909, .slice A912 l911.length C913] :: Ass.deep 87 75 kS75 (some ad1148) C909 l1167 :: Ass.own 3 (Kd.int .i64) A912 C913 l911 :: os) 87 (by kernel_rfl) (by kernel_rfl) (by kernel_rfl) (by kernel_rfl) rfl ?_)
              intro w hS
              have hS : St B w (Ass.own 75 kS75 (some ⟨g1239, 0, none⟩) 1 l1162 :: Ass.box 99 g906 [.slice (some ad1148) l1167.length C909, .slice A912 l911.length C913] :: Ass.deep 87 75 kS75 (some ad1148) C909 l1167 :: Ass.own 3 (Kd.int .i64) A912 C913 l911 :: os) (rs) := by simpa only [hl1167, List.length_set] using hS
              have hC : Core B [Ass.own 3 (Kd.int .i64) A912 C913 l911] [] _ := ⟨_, _, hS.re [3] [] rfl sub_self⟩
              refine ⟨hC, ?_⟩
              refine ED.keep [8, 9, 54, 55, 56, 59, 60, 61, 62, 65, 66, 68] [(8, .int .i32 t1151), (9, .bool (t1152)), (54, .pointer (some ⟨g906, 0, none⟩)), (55, .slice (some ad1148) l907.length C909), (56, .int .i64 a915), (59, .pointer (some ⟨g906, 0, none⟩)), (60, .slice (some ad1148) l907.length C909), (61, .int .i64 a915), (62, .pointer (some ((ad1148.add (a915.toNat * 1)).add 0))), (65, .agg #[.int .i64 a916, .int .i64 0, .int .i32 0, .int .i64 0]), (66, .slice (some ⟨g1239, 0, none⟩) l1162.length 1), (68, .pointer (some ((ad1148.add (a915.toNat * 1)).add 0)))] (by kernel_rfl) ?_
              refine ED.as' [(8, .int .i32 t1151), (9, .bool (t1152)), (54, .pointer (some ⟨g906, 0, none⟩)), (55, .slice (some ad1148) l1167.length C909), (56, .int .i64 a915), (59, .pointer (some ⟨g906, 0, none⟩)), (60, .slice (some ad1148) l1167.length C909), (61, .int .i64 a915), (62, .pointer (some ((ad1148.add (a915.toNat * 1)).add 0))), (65, .agg #[.int .i64 a916, .int .i64 0, .int .i32 0, .int .i64 0]), (66, .slice (some ⟨g1239, 0, none⟩) l1162.length 1), (68, .pointer (some ((ad1148.add (a915.toNat * 1)).add 0)))] (by simp only [hl1167, List.length_set]) ?_
              refine ED.done (by kernel_rfl) ?_
              refine EQ.to ?_
              refine EQ.keep [8, 9] [(8, .int .i32 t1151), (9, .bool (t1152))] (by kernel_rfl) ?_
              exact fun a ha => ⟨(some ⟨g1239, 0, none⟩), 1, ha, (hS.re [3, 3, 3, 3] [] rfl (sub_self))⟩
            · refine EO.Y (YO.loadHole hS 3 ad1148 (j := a915) rfl h1146 87 63 (by kernel_rfl) (by kernel_rfl) (by kernel_rfl) (by kernel_rfl)) ?_
              have hC : Core B [Ass.own 3 (Kd.int .i64) A912 C913 l911] [] _ := ⟨_, _, hS.re [4] [] rfl sub_self⟩
              refine ⟨hC, ?_⟩
              refine ED.at' #[true, true, true, false, true, true, true, true, true, true, true, true, true, true, true, false, false, false] (by kernel_rfl) ?_
              refine ED.two 3 15 3 (by kernel_rfl) (by kernel_rfl) ?_ ?_
              · refine EO.Y (YO.loadBox hS 2 rfl 80 0 1 (.slice (some ad1148) l907.length C909) 55 (by kernel_rfl) (by kernel_rfl) (by kernel_rfl) (by kernel_rfl)) ?_
                have hC : Core B [Ass.own 3 (Kd.int .i64) A912 C913 l911] [] _ := ⟨_, _, hS.re [4] [] rfl sub_self⟩
                refine ⟨hC, ?_⟩
                refine ED.at' #[true, true, true, true, true, true, true, true, true, true, true, true, true, true, true, false, false, false] (by kernel_rfl) ?_
                refine ED.one 15 2 #[true, true, true, true, true, true, true, true, true, true, true, true, true, true, true, true, false, false] (by kernel_rfl) (by kernel_rfl) (by kernel_rfl) (EO.append hS 87 87 75 32 1 kS75 A1149 C1150 (l907.getD a915.toNat []) rfl (some ⟨g1239, 0, none⟩) 1 l1162 (Rd.own 0 75 rfl) l1164 hl1164 (fun A1244 C1245 => Ass.own 75 kS75 (some ⟨g1239, 0, none⟩) 1 l1162 :: Ass.own 75 kS75 A1244 C1245 l1164 :: Ass.box 99 g906 [.slice (some ad1148) l907.length C909, .slice A912 l911.length C913] :: Ass.holed 87 75 kS75 (some ad1148) C909 l907 a915.toNat (A1149, (l907.getD a915.toNat []).length, C1150) :: Ass.own 3 (Kd.int .i64) A912 C913 l911 :: os) 67 (by kernel_rfl) (by kernel_rfl) (by kernel_rfl) (by kernel_rfl) h1163 (fun _ _ => rfl) ?_)
                intro A1244 C1245 w hS
                have hC : Core B [Ass.own 3 (Kd.int .i64) A912 C913 l911] [] _ := ⟨_, _, hS.re [4] [] rfl sub_self⟩
                refine ⟨hC, ?_⟩
                refine ED.Y hN hF hC 16 1 #[true, true, true, true, true, true, true, true, true, true, true, true, true, true, true, true, true, false] (by kernel_rfl) (by kernel_rfl) rfl (fun _ _ _ hS => YO.idx 80 1 ad1148 l907.length C909 .i64 a915 68 (by kernel_rfl) (by kernel_rfl) (by kernel_rfl) (by kernel_rfl) h1146 h1147) ?_
                refine ED.one 17 0 #[true, true, true, true, true, true, true, true, true, true, true, true, true, true, true, true, true, true] (by kernel_rfl) (by kernel_rfl) (by kernel_rfl) (EO.closeEl hS 1 2 ad1148 a915 rfl rfl h1146 l1167 hl1167 (Ass.own 75 kS75 (some ⟨g1239, 0, none⟩) 1 l1162 :: Ass.box 99 g906 [.slice (some ad1148) l907.length C909, .slice A912 l911.length C913] :: Ass.deep 87 75 kS75 (some ad1148) C909 l1167 :: Ass.own 3 (Kd.int .i64) A912 C913 l911 :: os) 87 (by kernel_rfl) (by kernel_rfl) (by kernel_rfl) (by kernel_rfl) rfl ?_)
                intro w hS
                have hS : St B w (Ass.own 75 kS75 (some ⟨g1239, 0, none⟩) 1 l1162 :: Ass.box 99 g906 [.slice (some ad1148) l1167.length C909, .slice A912 l911.length C913] :: Ass.deep 87 75 kS75 (some ad1148) C909 l1167 :: Ass.own 3 (Kd.int .i64) A912 C913 l911 :: os) (rs) := by simpa only [hl1167, List.length_set] using hS
                have hC : Core B [Ass.own 3 (Kd.int .i64) A912 C913 l911] [] _ := ⟨_, _, hS.re [3] [] rfl sub_self⟩
                refine ⟨hC, ?_⟩
                refine ED.keep [8, 9, 54, 55, 56, 59, 60, 61, 62, 65, 66, 68] [(8, .int .i32 t1151), (9, .bool (t1152)), (54, .pointer (some ⟨g906, 0, none⟩)), (55, .slice (some ad1148) l907.length C909), (56, .int .i64 a915), (59, .pointer (some ⟨g906, 0, none⟩)), (60, .slice (some ad1148) l907.length C909), (61, .int .i64 a915), (62, .pointer (some ((ad1148.add (a915.toNat * 1)).add 0))), (65, .agg #[.int .i64 a916, .int .i64 0, .int .i32 0, .int .i64 0]), (66, .slice (some ⟨g1239, 0, none⟩) l1162.length 1), (68, .pointer (some ((ad1148.add (a915.toNat * 1)).add 0)))] (by kernel_rfl) ?_
                refine ED.as' [(8, .int .i32 t1151), (9, .bool (t1152)), (54, .pointer (some ⟨g906, 0, none⟩)), (55, .slice (some ad1148) l1167.length C909), (56, .int .i64 a915), (59, .pointer (some ⟨g906, 0, none⟩)), (60, .slice (some ad1148) l1167.length C909), (61, .int .i64 a915), (62, .pointer (some ((ad1148.add (a915.toNat * 1)).add 0))), (65, .agg #[.int .i64 a916, .int .i64 0, .int .i32 0, .int .i64 0]), (66, .slice (some ⟨g1239, 0, none⟩) l1162.length 1), (68, .pointer (some ((ad1148.add (a915.toNat * 1)).add 0)))] (by simp only [hl1167, List.length_set]) ?_
                refine ED.done (by kernel_rfl) ?_
                refine EQ.to ?_
                refine EQ.keep [8, 9] [(8, .int .i32 t1151), (9, .bool (t1152))] (by kernel_rfl) ?_
                exact fun a ha => ⟨(some ⟨g1239, 0, none⟩), 1, ha, (hS.re [3, 3, 3, 3] [] rfl (sub_self))⟩
              · refine EO.append hS 87 87 75 32 1 kS75 A1149 C1150 (l907.getD a915.toNat []) rfl (some ⟨g1239, 0, none⟩) 1 l1162 (Rd.own 0 75 rfl) l1164 hl1164 (fun A1246 C1247 => Ass.own 75 kS75 (some ⟨g1239, 0, none⟩) 1 l1162 :: Ass.own 75 kS75 A1246 C1247 l1164 :: Ass.box 99 g906 [.slice (some ad1148) l907.length C909, .slice A912 l911.length C913] :: Ass.holed 87 75 kS75 (some ad1148) C909 l907 a915.toNat (A1149, (l907.getD a915.toNat []).length, C1150) :: Ass.own 3 (Kd.int .i64) A912 C913 l911 :: os) 67 (by kernel_rfl) (by kernel_rfl) (by kernel_rfl) (by kernel_rfl) h1163 (fun _ _ => rfl) ?_
                intro A1246 C1247 w hS
                have hC : Core B [Ass.own 3 (Kd.int .i64) A912 C913 l911] [] _ := ⟨_, _, hS.re [4] [] rfl sub_self⟩
                refine ⟨hC, ?_⟩
                refine ED.at' #[true, true, true, false, true, true, true, true, true, true, true, true, true, true, true, true, false, false] (by kernel_rfl) ?_
                refine ED.one 3 2 #[true, true, true, true, true, true, true, true, true, true, true, true, true, true, true, true, false, false] (by kernel_rfl) (by kernel_rfl) (by kernel_rfl) (EO.Y (YO.loadBox hS 2 rfl 80 0 1 (.slice (some ad1148) l907.length C909) 55 (by kernel_rfl) (by kernel_rfl) (by kernel_rfl) (by kernel_rfl)) ?_)
                have hC : Core B [Ass.own 3 (Kd.int .i64) A912 C913 l911] [] _ := ⟨_, _, hS.re [4] [] rfl sub_self⟩
                refine ⟨hC, ?_⟩
                refine ED.Y hN hF hC 16 1 #[true, true, true, true, true, true, true, true, true, true, true, true, true, true, true, true, true, false] (by kernel_rfl) (by kernel_rfl) rfl (fun _ _ _ hS => YO.idx 80 1 ad1148 l907.length C909 .i64 a915 68 (by kernel_rfl) (by kernel_rfl) (by kernel_rfl) (by kernel_rfl) h1146 h1147) ?_
                refine ED.one 17 0 #[true, true, true, true, true, true, true, true, true, true, true, true, true, true, true, true, true, true] (by kernel_rfl) (by kernel_rfl) (by kernel_rfl) (EO.closeEl hS 1 2 ad1148 a915 rfl rfl h1146 l1167 hl1167 (Ass.own 75 kS75 (some ⟨g1239, 0, none⟩) 1 l1162 :: Ass.box 99 g906 [.slice (some ad1148) l907.length C909, .slice A912 l911.length C913] :: Ass.deep 87 75 kS75 (some ad1148) C909 l1167 :: Ass.own 3 (Kd.int .i64) A912 C913 l911 :: os) 87 (by kernel_rfl) (by kernel_rfl) (by kernel_rfl) (by kernel_rfl) rfl ?_)
                intro w hS
                have hS : St B w (Ass.own 75 kS75 (some ⟨g1239, 0, none⟩) 1 l1162 :: Ass.box 99 g906 [.slice (some ad1148) l1167.length C909, .slice A912 l911.length C913] :: Ass.deep 87 75 kS75 (some ad1148) C909 l1167 :: Ass.own 3 (Kd.int .i64) A912 C913 l911 :: os) (rs) := by simpa only [hl1167, List.length_set] using hS
                have hC : Core B [Ass.own 3 (Kd.int .i64) A912 C913 l911] [] _ := ⟨_, _, hS.re [3] [] rfl sub_self⟩
                refine ⟨hC, ?_⟩
                refine ED.keep [8, 9, 54, 55, 56, 59, 60, 61, 62, 65, 66, 68] [(8, .int .i32 t1151), (9, .bool (t1152)), (54, .pointer (some ⟨g906, 0, none⟩)), (55, .slice (some ad1148) l907.length C909), (56, .int .i64 a915), (59, .pointer (some ⟨g906, 0, none⟩)), (60, .slice (some ad1148) l907.length C909), (61, .int .i64 a915), (62, .pointer (some ((ad1148.add (a915.toNat * 1)).add 0))), (65, .agg #[.int .i64 a916, .int .i64 0, .int .i32 0, .int .i64 0]), (66, .slice (some ⟨g1239, 0, none⟩) l1162.length 1), (68, .pointer (some ((ad1148.add (a915.toNat * 1)).add 0)))] (by kernel_rfl) ?_
                refine ED.as' [(8, .int .i32 t1151), (9, .bool (t1152)), (54, .pointer (some ⟨g906, 0, none⟩)), (55, .slice (some ad1148) l1167.length C909), (56, .int .i64 a915), (59, .pointer (some ⟨g906, 0, none⟩)), (60, .slice (some ad1148) l1167.length C909), (61, .int .i64 a915), (62, .pointer (some ((ad1148.add (a915.toNat * 1)).add 0))), (65, .agg #[.int .i64 a916, .int .i64 0, .int .i32 0, .int .i64 0]), (66, .slice (some ⟨g1239, 0, none⟩) l1162.length 1), (68, .pointer (some ((ad1148.add (a915.toNat * 1)).add 0)))] (by simp only [hl1167, List.length_set]) ?_
                refine ED.done (by kernel_rfl) ?_
                refine EQ.to ?_
                refine EQ.keep [8, 9] [(8, .int .i32 t1151), (9, .bool (t1152))] (by kernel_rfl) ?_
                exact fun a ha => ⟨(some ⟨g1239, 0, none⟩), 1, ha, (hS.re [3, 3, 3, 3] [] rfl (sub_self))⟩
      · obtain ⟨A1207, C1208, ha, hS⟩ := hI
        refine EQ.at ?_ a ha
        clear ha a
        refine EQ.code ?_
        refine EW.seq (x := Cd46.r.r.r.r.l) (y := Cd46.r.r.r.r.r) (by kernel_rfl) ?_
        refine EW.region (id := 5) (ops := Cd46.r.r.r.r.l.ops) (by kernel_rfl) ?_
        refine EL.quick 4 [6, 7] [(6, .int .i32 t1151), (7, .bool (t1152))] (by kernel_rfl) ?_
        refine EL.done (by kernel_rfl) ?_
        refine EQ.code ?_
        refine EW.ret (by kernel_rfl) ?_
        simp only [Option.some.injEq, Prod.mk.injEq] at H
        obtain ⟨rfl, rfl, rfl⟩ := H
        exact EQ.leave (.tuple #[.int .i32 t1151, .bool (t1152)]) (by kernel_rfl) ⟨_, rfl, (some ad1148), C909, rfl, (hS.re [3, 3, 3] [3] rfl (sub_self))⟩

/-! ### confidant/ident.Label$1: function 84 -/
def ident_Label_1.f (K : Nat) (a1286 : Int) : Option Int := some (IntKind.i64.wrap (Int.tdiv a1286 65536))
set_option maxRecDepth 100000 in
theorem ident_Label_1.calls {K : Nat} {a1286 : Int} {x1287 : Int} {B w : World} {os : List Ass} {rs : List Ro} (H : ident_Label_1.f K a1286 = some x1287) (hS : St B w (os) (rs)) :
    Calls Try.prog 84 [.int .i64 a1286].toArray w (fun en w' => ∃ v, en = .returned v ∧ v = .int .i64 x1287 ∧ St B w' (os) (rs)) := by
  unfold ident_Label_1.f at H
  refine calls_of_EW (args := [.int .i64 a1286]) (c := Cd84) 5 Try.func84 (by kernel_rfl) (by kernel_rfl) (by kernel_rfl) ?_
  refine EW.seq (x := Cd84.l) (y := Cd84.r) (by kernel_rfl) ?_
  refine EW.region (id := 0) (ops := Cd84.l.ops) (by kernel_rfl) ?_
  refine EL.quick 1 [0] [(0, .int .i64 a1286)] (by kernel_rfl) ?_
  refine EL.done (by kernel_rfl) ?_
  refine EQ.code ?_
  refine EW.seq (x := Cd84.r.l) (y := Cd84.r.r) (by kernel_rfl) ?_
  refine EW.region (id := 1) (ops := Cd84.r.l.ops) (by kernel_rfl) ?_
  refine EL.quick 3 [2] [(2, .int .i64 (IntKind.i64.wrap (Int.tdiv a1286 65536)))] (by kernel_rfl) ?_
  refine EL.done (by kernel_rfl) ?_
  refine EQ.code ?_
  refine EW.ret (by kernel_rfl) ?_
  obtain rfl := Option.some.inj H
  exact EQ.leave (.int .i64 (IntKind.i64.wrap (Int.tdiv a1286 65536))) (by kernel_rfl) ⟨_, rfl, rfl, (hS.re [] [] rfl (sub_self))⟩

/-! ### confidant/ident.Label: function 80 -/
def ident_Label.f (K : Nat) (a1283 : Int) : Option Int := lt (fun (x1311 : Int) => (some x1311)) fun j1312 => (if a1283 < 0 then (j1312 (-1)) else (b1 (ident_Label_1.f K (IntKind.i64.wrap a1283)) fun (t1315 : Int) => (j1312 t1315)))
set_option maxRecDepth 100000 in
theorem ident_Label.calls {K : Nat} {a1283 : Int} {x1301 : Int} {B w : World} {os : List Ass} {rs : List Ro} (H : ident_Label.f K a1283 = some x1301) (hS : St B w (os) (rs)) :
    Calls Try.prog 80 [.int .i32 a1283].toArray w (fun en w' => ∃ v, en = .returned v ∧ v = .int .i64 x1301 ∧ St B w' (os) (rs)) := by
  unfold ident_Label.f at H
  refine calls_of_EW (args := [.int .i32 a1283]) (c := Cd80) 5 Try.func80 (by kernel_rfl) (by kernel_rfl) (by kernel_rfl) ?_
  refine EW.seq (x := Cd80.l) (y := Cd80.r) (by kernel_rfl) ?_
  refine EW.region (id := 0) (ops := Cd80.l.ops) (by kernel_rfl) ?_
  refine EL.quick 1 [0] [(0, .int .i32 a1283)] (by kernel_rfl) ?_
  refine EL.done (by kernel_rfl) ?_
  refine EQ.code ?_
  refine EW.seq (x := Cd80.r.l) (y := Cd80.r.r) (by kernel_rfl) ?_
  refine EW.region (id := 1) (ops := Cd80.r.l.ops) (by kernel_rfl) ?_
  refine EL.quick 1 [3] [(3, .int .i32 a1283)] (by kernel_rfl) ?_
  obtain ⟨j1312, hj1312, H⟩ := lt_out H
  refine EL.of (EO.callD 83 [.int .i32 a1283, .func (.func 84) #[] #[]] (fun v w => ∃ x1311 : Int, v = .int .i64 x1311 ∧ St B w (os) (rs) ∧ j1312 x1311 = some x1301) 4 (by kernel_rfl) (by kernel_rfl) (by kernel_rfl) ?_ ?_)
  · refine calls_of_EW (args := [.int .i32 a1283, .func (.func 84) #[] #[]]) (c := Cd83) 11 Try.func83 (by kernel_rfl) (by kernel_rfl) (by kernel_rfl) ?_
    refine EW.seq (x := Cd83.l) (y := Cd83.r) (by kernel_rfl) ?_
    refine EW.region (id := 0) (ops := Cd83.l.ops) (by kernel_rfl) ?_
    refine EL.quick 1 [0, 1] [(0, .int .i32 a1283), (1, .func (.func 84) #[] #[])] (by kernel_rfl) ?_
    refine EL.done (by kernel_rfl) ?_
    refine EQ.code ?_
    refine EW.seq (x := Cd83.r.l) (y := Cd83.r.r) (by kernel_rfl) ?_
    refine EW.seq (x := Cd83.r.l.l) (y := Cd83.r.l.r) (by kernel_rfl) ?_
    refine EW.region (id := 1) (ops := Cd83.r.l.l.ops) (by kernel_rfl) ?_
    refine EL.quick 2 [0, 1, 6] [(0, .int .i32 a1283), (1, .func (.func 84) #[] #[]), (6, .bool (decide (a1283 < 0)))] (by kernel_rfl) ?_
    refine EL.done (by kernel_rfl) ?_
    refine EQ.code ?_
    refine EW.condP (o := (.tmp 6)) (x := Cd83.r.l.r.l) (y := Cd83.r.l.r.r) (a1283 < 0) (by kernel_rfl) (by kernel_rfl) (fun h1314 => ?_) (fun h1314 => ?_)
    · rw [if_pos h1314] at H
      refine EW.seq (x := Cd83.r.l.r.l.l) (y := Cd83.r.l.r.l.r) (by kernel_rfl) ?_
      refine EW.region (id := 2) (ops := Cd83.r.l.r.l.l.ops) (by kernel_rfl) ?_
      refine EL.quick 1 [4] [(4, .int .i64 (-1))] (by kernel_rfl) ?_
      refine EL.done (by kernel_rfl) ?_
      refine EQ.code ?_
      refine EW.ret (by kernel_rfl) ?_
      refine EQ.ret ?_
      exact EQ.leave (.int .i64 (-1)) (by kernel_rfl) ⟨_, rfl, (-1), rfl, (hS.re [] [] rfl (sub_self)), H⟩
    · rw [if_neg h1314] at H
      refine EW.skip (by kernel_rfl) ?_
      refine EQ.code ?_
      refine EW.seq (x := Cd83.r.r.l) (y := Cd83.r.r.r) (by kernel_rfl) ?_
      refine EW.region (id := 3) (ops := Cd83.r.r.l.ops) (by kernel_rfl) ?_
      refine EL.quick 3 [7, 9] [(7, .func (.func 84) #[] #[]), (9, .int .i64 (IntKind.i64.wrap a1283))] (by kernel_rfl) ?_
      obtain ⟨t1315, hc1316, H⟩ := b1_out H
      refine EL.of (EO.callD 84 [.int .i64 (IntKind.i64.wrap a1283)] _ 10 (by kernel_rfl) (by kernel_rfl) (by kernel_rfl) (ident_Label_1.calls hc1316 hS) ?_)
      rintro v w ⟨rfl, hS⟩
      refine EL.quick 1 [4] [(4, .int .i64 t1315)] (by kernel_rfl) ?_
      refine EL.done (by kernel_rfl) ?_
      refine EQ.code ?_
      refine EW.ret (by kernel_rfl) ?_
      exact EQ.leave (.int .i64 t1315) (by kernel_rfl) ⟨_, rfl, t1315, rfl, (hS.re [] [] rfl (sub_self)), H⟩
  · rintro v w ⟨x1311, rfl, hS, H⟩
    rw [hj1312] at H
    (try dsimp only at H)
    refine EL.quick 1 [2] [(2, .int .i64 x1311)] (by kernel_rfl) ?_
    refine EL.done (by kernel_rfl) ?_
    refine EQ.code ?_
    refine EW.ret (by kernel_rfl) ?_
    obtain rfl := Option.some.inj H
    exact EQ.leave (.int .i64 x1311) (by kernel_rfl) ⟨_, rfl, rfl, (hS.re [] [] rfl (sub_self))⟩

/-! ### confidant/ident.Number$1: function 85 -/
def ident_Number_1.f (K : Nat) (a1322 : Int) : Option Int := some (Int.tmod a1322 65536)
set_option maxRecDepth 100000 in
theorem ident_Number_1.calls {K : Nat} {a1322 : Int} {x1323 : Int} {B w : World} {os : List Ass} {rs : List Ro} (H : ident_Number_1.f K a1322 = some x1323) (hS : St B w (os) (rs)) :
    Calls Try.prog 85 [.int .i64 a1322].toArray w (fun en w' => ∃ v, en = .returned v ∧ v = .int .i64 x1323 ∧ St B w' (os) (rs)) := by
  unfold ident_Number_1.f at H
  refine calls_of_EW (args := [.int .i64 a1322]) (c := Cd85) 5 Try.func85 (by kernel_rfl) (by kernel_rfl) (by kernel_rfl) ?_
  refine EW.seq (x := Cd85.l) (y := Cd85.r) (by kernel_rfl) ?_
  refine EW.region (id := 0) (ops := Cd85.l.ops) (by kernel_rfl) ?_
  refine EL.quick 1 [0] [(0, .int .i64 a1322)] (by kernel_rfl) ?_
  refine EL.done (by kernel_rfl) ?_
  refine EQ.code ?_
  refine EW.seq (x := Cd85.r.l) (y := Cd85.r.r) (by kernel_rfl) ?_
  refine EW.region (id := 1) (ops := Cd85.r.l.ops) (by kernel_rfl) ?_
  refine EL.quick 3 [2] [(2, .int .i64 (Int.tmod a1322 65536))] (by kernel_rfl) ?_
  refine EL.done (by kernel_rfl) ?_
  refine EQ.code ?_
  refine EW.ret (by kernel_rfl) ?_
  obtain rfl := Option.some.inj H
  exact EQ.leave (.int .i64 (Int.tmod a1322 65536)) (by kernel_rfl) ⟨_, rfl, rfl, (hS.re [] [] rfl (sub_self))⟩

/-! ### confidant/ident.Number: function 81 -/
def ident_Number.f (K : Nat) (a1319 : Int) : Option Int := lt (fun (x1347 : Int) => (some x1347)) fun j1348 => (if a1319 < 0 then (j1348 (-1)) else (b1 (ident_Number_1.f K (IntKind.i64.wrap a1319)) fun (t1351 : Int) => (j1348 t1351)))
set_option maxRecDepth 100000 in
theorem ident_Number.calls {K : Nat} {a1319 : Int} {x1337 : Int} {B w : World} {os : List Ass} {rs : List Ro} (H : ident_Number.f K a1319 = some x1337) (hS : St B w (os) (rs)) :
    Calls Try.prog 81 [.int .i32 a1319].toArray w (fun en w' => ∃ v, en = .returned v ∧ v = .int .i64 x1337 ∧ St B w' (os) (rs)) := by
  unfold ident_Number.f at H
  refine calls_of_EW (args := [.int .i32 a1319]) (c := Cd81) 5 Try.func81 (by kernel_rfl) (by kernel_rfl) (by kernel_rfl) ?_
  refine EW.seq (x := Cd81.l) (y := Cd81.r) (by kernel_rfl) ?_
  refine EW.region (id := 0) (ops := Cd81.l.ops) (by kernel_rfl) ?_
  refine EL.quick 1 [0] [(0, .int .i32 a1319)] (by kernel_rfl) ?_
  refine EL.done (by kernel_rfl) ?_
  refine EQ.code ?_
  refine EW.seq (x := Cd81.r.l) (y := Cd81.r.r) (by kernel_rfl) ?_
  refine EW.region (id := 1) (ops := Cd81.r.l.ops) (by kernel_rfl) ?_
  refine EL.quick 1 [3] [(3, .int .i32 a1319)] (by kernel_rfl) ?_
  obtain ⟨j1348, hj1348, H⟩ := lt_out H
  refine EL.of (EO.callD 83 [.int .i32 a1319, .func (.func 85) #[] #[]] (fun v w => ∃ x1347 : Int, v = .int .i64 x1347 ∧ St B w (os) (rs) ∧ j1348 x1347 = some x1337) 4 (by kernel_rfl) (by kernel_rfl) (by kernel_rfl) ?_ ?_)
  · refine calls_of_EW (args := [.int .i32 a1319, .func (.func 85) #[] #[]]) (c := Cd83) 11 Try.func83 (by kernel_rfl) (by kernel_rfl) (by kernel_rfl) ?_
    refine EW.seq (x := Cd83.l) (y := Cd83.r) (by kernel_rfl) ?_
    refine EW.region (id := 0) (ops := Cd83.l.ops) (by kernel_rfl) ?_
    refine EL.quick 1 [0, 1] [(0, .int .i32 a1319), (1, .func (.func 85) #[] #[])] (by kernel_rfl) ?_
    refine EL.done (by kernel_rfl) ?_
    refine EQ.code ?_
    refine EW.seq (x := Cd83.r.l) (y := Cd83.r.r) (by kernel_rfl) ?_
    refine EW.seq (x := Cd83.r.l.l) (y := Cd83.r.l.r) (by kernel_rfl) ?_
    refine EW.region (id := 1) (ops := Cd83.r.l.l.ops) (by kernel_rfl) ?_
    refine EL.quick 2 [0, 1, 6] [(0, .int .i32 a1319), (1, .func (.func 85) #[] #[]), (6, .bool (decide (a1319 < 0)))] (by kernel_rfl) ?_
    refine EL.done (by kernel_rfl) ?_
    refine EQ.code ?_
    refine EW.condP (o := (.tmp 6)) (x := Cd83.r.l.r.l) (y := Cd83.r.l.r.r) (a1319 < 0) (by kernel_rfl) (by kernel_rfl) (fun h1350 => ?_) (fun h1350 => ?_)
    · rw [if_pos h1350] at H
      refine EW.seq (x := Cd83.r.l.r.l.l) (y := Cd83.r.l.r.l.r) (by kernel_rfl) ?_
      refine EW.region (id := 2) (ops := Cd83.r.l.r.l.l.ops) (by kernel_rfl) ?_
      refine EL.quick 1 [4] [(4, .int .i64 (-1))] (by kernel_rfl) ?_
      refine EL.done (by kernel_rfl) ?_
      refine EQ.code ?_
      refine EW.ret (by kernel_rfl) ?_
      refine EQ.ret ?_
      exact EQ.leave (.int .i64 (-1)) (by kernel_rfl) ⟨_, rfl, (-1), rfl, (hS.re [] [] rfl (sub_self)), H⟩
    · rw [if_neg h1350] at H
      refine EW.skip (by kernel_rfl) ?_
      refine EQ.code ?_
      refine EW.seq (x := Cd83.r.r.l) (y := Cd83.r.r.r) (by kernel_rfl) ?_
      refine EW.region (id := 3) (ops := Cd83.r.r.l.ops) (by kernel_rfl) ?_
      refine EL.quick 3 [7, 9] [(7, .func (.func 85) #[] #[]), (9, .int .i64 (IntKind.i64.wrap a1319))] (by kernel_rfl) ?_
      obtain ⟨t1351, hc1352, H⟩ := b1_out H
      refine EL.of (EO.callD 85 [.int .i64 (IntKind.i64.wrap a1319)] _ 10 (by kernel_rfl) (by kernel_rfl) (by kernel_rfl) (ident_Number_1.calls hc1352 hS) ?_)
      rintro v w ⟨rfl, hS⟩
      refine EL.quick 1 [4] [(4, .int .i64 t1351)] (by kernel_rfl) ?_
      refine EL.done (by kernel_rfl) ?_
      refine EQ.code ?_
      refine EW.ret (by kernel_rfl) ?_
      exact EQ.leave (.int .i64 t1351) (by kernel_rfl) ⟨_, rfl, t1351, rfl, (hS.re [] [] rfl (sub_self)), H⟩
  · rintro v w ⟨x1347, rfl, hS, H⟩
    rw [hj1348] at H
    (try dsimp only at H)
    refine EL.quick 1 [2] [(2, .int .i64 x1347)] (by kernel_rfl) ?_
    refine EL.done (by kernel_rfl) ?_
    refine EQ.code ?_
    refine EW.ret (by kernel_rfl) ?_
    obtain rfl := Option.some.inj H
    exact EQ.leave (.int .i64 x1347) (by kernel_rfl) ⟨_, rfl, rfl, (hS.re [] [] rfl (sub_self))⟩

/-! ### (*confidant/future.Futures).Keep: function 48 -/
def future_Futures_Keep.f (K : Nat) (l1262 : List (List S75)) (l1266 : List Int) (a1270 : Int) (a1271 : Int) : Option (List (List S75) × Bool) := lt (fun (x2960 : List (List S75)) (x2963 : Bool) => (some (x2960, x2963))) fun j2964 => (b1 (ident_Label.f K a1270) fun (t3167 : Int) => (b1 (ident_Number.f K a1270) fun (t3169 : Int) => (lt (fun (x3211 : Bool) => (if x3211 = true then (j2964 l1262 false) else (if 0 ≤ t3167 then (if t3167 < (l1262.length : Int) then (if 0 ≤ t3169 then (if t3169 < ((l1262.getD t3167.toNat []).length : Int) then (if (((l1262.getD t3167.toNat []).getD t3169.toNat zS75).f1) = 0 then (lt ((l1262.getD t3167.toNat []).set t3169.toNat (⟨((l1262.getD t3167.toNat []).getD t3169.toNat zS75).f0, 1, ((l1262.getD t3167.toNat []).getD t3169.toNat zS75).f2, ((l1262.getD t3167.toNat []).getD t3169.toNat zS75).f3⟩ : S75)) fun l3238 => (lt (l3238.set t3169.toNat (⟨(l3238.getD t3169.toNat zS75).f0, (l3238.getD t3169.toNat zS75).f1, a1271, (l3238.getD t3169.toNat zS75).f3⟩ : S75)) fun l3239 => (lt (l3239.set t3169.toNat (⟨(l3239.getD t3169.toNat zS75).f0, (l3239.getD t3169.toNat zS75).f1, (l3239.getD t3169.toNat zS75).f2, 0⟩ : S75)) fun l3240 => (j2964 (l1262.set t3167.toNat l3240) true)))) else (j2964 l1262 false)) else none) else none) else none) else none))) fun j3212 => (if t3167 < 0 then (j3212 true) else (if t3167 ≥ (l1262.length : Int) then (j3212 true) else (if 0 ≤ t3167 then (if t3167 < (l1262.length : Int) then (j3212 (decide (t3169 ≥ ((l1262.getD t3167.toNat []).length : Int)))) else none) else none))))))
set_option maxRecDepth 100000 in
theorem future_Futures_Keep.calls {K : Nat} {l1262 : List (List S75)} {l1266 : List Int} {a1270 : Int} {a1271 : Int} {g1261 : Nat} {A1263 : Option Addr} {C1264 : Nat} {A1267 : Option Addr} {C1268 : Nat} {x2404 : List (List S75)} {x2407 : Bool} {B w : World} {os : List Ass} {rs : List Ro} (H : future_Futures_Keep.f K l1262 l1266 a1270 a1271 = some (x2404, x2407)) (hS : St B w (Ass.box 99 g1261 [.slice A1263 l1262.length C1264, .slice A1267 l1266.length C1268] :: Ass.deep 87 75 kS75 A1263 C1264 l1262 :: Ass.own 3 (Kd.int .i64) A1267 C1268 l1266 :: os) (rs)) :
    Calls Try.prog 48 [.pointer (some ⟨g1261, 0, none⟩), .int .i32 a1270, .int .i32 a1271].toArray w (fun en w' => ∃ v, en = .returned v ∧ ∃ A2405 : Option Addr, ∃ C2406 : Nat, v = .bool (x2407) ∧ St B w' (Ass.box 99 g1261 [.slice A2405 x2404.length C2406, .slice A1267 l1266.length C1268] :: Ass.deep 87 75 kS75 A2405 C2406 x2404 :: Ass.own 3 (Kd.int .i64) A1267 C1268 l1266 :: os) (rs)) := by
  unfold future_Futures_Keep.f at H
  refine calls_of_EW (args := [.pointer (some ⟨g1261, 0, none⟩), .int .i32 a1270, .int .i32 a1271]) (c := Cd48) 13 Try.func48 (by kernel_rfl) (by kernel_rfl) (by kernel_rfl) ?_
  refine EW.seq (x := Cd48.l) (y := Cd48.r) (by kernel_rfl) ?_
  refine EW.region (id := 0) (ops := Cd48.l.ops) (by kernel_rfl) ?_
  refine EL.quick 1 [0, 1, 2] [(0, .pointer (some ⟨g1261, 0, none⟩)), (1, .int .i32 a1270), (2, .int .i32 a1271)] (by kernel_rfl) ?_
  refine EL.done (by kernel_rfl) ?_
  refine EQ.code ?_
  refine EW.seq (x := Cd48.r.l) (y := Cd48.r.r) (by kernel_rfl) ?_
  refine EW.region (id := 1) (ops := Cd48.r.l.ops) (by kernel_rfl) ?_
  refine EL.quick 5 [7, 8, 11] [(7, .pointer (some ⟨g1261, 0, none⟩)), (8, .int .i32 a1270), (11, .func (.func 70) #[.agg #[.int .i64 1, .int .i32 a1271, .int .i64 0]] #[])] (by kernel_rfl) ?_
  obtain ⟨j2964, hj2964, H⟩ := lt_out H
  refine EL.of (EO.callD 69 [.pointer (some ⟨g1261, 0, none⟩), .int .i32 a1270, .func (.func 70) #[.agg #[.int .i64 1, .int .i32 a1271, .int .i64 0]] #[]] (fun v w => ∃ x2960 : List (List S75), ∃ x2963 : Bool, ∃ A2961 : Option Addr, ∃ C2962 : Nat, v = .bool (x2963) ∧ St B w (Ass.box 99 g1261 [.slice A2961 x2960.length C2962, .slice A1267 l1266.length C1268] :: Ass.deep 87 75 kS75 A2961 C2962 x2960 :: Ass.own 3 (Kd.int .i64) A1267 C1268 l1266 :: os) (rs) ∧ j2964 x2960 x2963 = some (x2404, x2407)) 12 (by kernel_rfl) (by kernel_rfl) (by kernel_rfl) ?_ ?_)
  · refine calls_of_EW (args := [.pointer (some ⟨g1261, 0, none⟩), .int .i32 a1270, .func (.func 70) #[.agg #[.int .i64 1, .int .i32 a1271, .int .i64 0]] #[]]) (c := Cd69) 23 Try.func69 (by kernel_rfl) (by kernel_rfl) (by kernel_rfl) ?_
    refine EW.seq (x := Cd69.l) (y := Cd69.r) (by kernel_rfl) ?_
    refine EW.region (id := 0) (ops := Cd69.l.ops) (by kernel_rfl) ?_
    refine EL.quick 1 [0, 1, 2] [(0, .pointer (some ⟨g1261, 0, none⟩)), (1, .int .i32 a1270), (2, .func (.func 70) #[.agg #[.int .i64 1, .int .i32 a1271, .int .i64 0]] #[])] (by kernel_rfl) ?_
    refine EL.done (by kernel_rfl) ?_
    refine EQ.code ?_
    refine EW.seq (x := Cd69.r.l) (y := Cd69.r.r) (by kernel_rfl) ?_
    refine EW.region (id := 1) (ops := Cd69.r.l.ops) (by kernel_rfl) ?_
    refine EL.quick 2 [2, 8, 9] [(2, .func (.func 70) #[.agg #[.int .i64 1, .int .i32 a1271, .int .i64 0]] #[]), (8, .pointer (some ⟨g1261, 0, none⟩)), (9, .int .i32 a1270)] (by kernel_rfl) ?_
    refine EL.inline 72 [.pointer (some ⟨g1261, 0, none⟩), .int .i32 a1270] 10 (by kernel_rfl) (by kernel_rfl) (by kernel_rfl) ?_
    refine calls_of_EW (args := [.pointer (some ⟨g1261, 0, none⟩), .int .i32 a1270]) (c := Cd72) 43 Try.func72 (by kernel_rfl) (by kernel_rfl) (by kernel_rfl) ?_
    refine EW.seq (x := Cd72.l) (y := Cd72.r) (by kernel_rfl) ?_
    refine EW.region (id := 0) (ops := Cd72.l.ops) (by kernel_rfl) ?_
    refine EL.quick 1 [0, 1] [(0, .pointer (some ⟨g1261, 0, none⟩)), (1, .int .i32 a1270)] (by kernel_rfl) ?_
    refine EL.done (by kernel_rfl) ?_
    refine EQ.code ?_
    refine EW.seq (x := Cd72.r.l) (y := Cd72.r.r) (by kernel_rfl) ?_
    refine EW.region (id := 1) (ops := Cd72.r.l.ops) (by kernel_rfl) ?_
    refine EL.quick 1 [0, 1, 7] [(0, .pointer (some ⟨g1261, 0, none⟩)), (1, .int .i32 a1270), (7, .int .i32 a1270)] (by kernel_rfl) ?_
    obtain ⟨t3167, hc3168, H⟩ := b1_out H
    refine EL.of (EO.callD 80 [.int .i32 a1270] _ 8 (by kernel_rfl) (by kernel_rfl) (by kernel_rfl) (ident_Label.calls hc3168 hS) ?_)
    rintro v w ⟨rfl, hS⟩
    refine EL.quick 1 [0, 8, 9] [(0, .pointer (some ⟨g1261, 0, none⟩)), (8, .int .i64 t3167), (9, .int .i32 a1270)] (by kernel_rfl) ?_
    obtain ⟨t3169, hc3170, H⟩ := b1_out H
    refine EL.of (EO.callD 81 [.int .i32 a1270] _ 10 (by kernel_rfl) (by kernel_rfl) (by kernel_rfl) (ident_Number.calls hc3170 hS) ?_)
    rintro v w ⟨rfl, hS⟩
    refine EL.quick 2 [0, 5, 6] [(0, .pointer (some ⟨g1261, 0, none⟩)), (5, .int .i64 t3167), (6, .int .i64 t3169)] (by kernel_rfl) ?_
    refine EL.done (by kernel_rfl) ?_
    refine EQ.code ?_
    refine EW.seq (x := Cd72.r.r.l) (y := Cd72.r.r.r) (by kernel_rfl) ?_
    obtain ⟨j3212, hj3212, H⟩ := lt_out H
    refine EW.cut (x := Cd72.r.r.l.l) (y := Cd72.r.r.l.r) (fun a w => ∃ x3211 : Bool, Sat 43 [(0, .pointer (some ⟨g1261, 0, none⟩)), (5, .int .i64 t3167), (6, .int .i64 t3169), (33, .bool (x3211))] a ∧ St B w (Ass.box 99 g1261 [.slice A1263 l1262.length C1264, .slice A1267 l1266.length C1268] :: Ass.deep 87 75 kS75 A1263 C1264 l1262 :: Ass.own 3 (Kd.int .i64) A1267 C1268 l1266 :: os) (rs) ∧ j3212 x3211 = some (x2404, x2407)) (by kernel_rfl) ?_ (fun a w hI => ?_)
    · refine EW.region (id := 2) (ops := Cd72.r.r.l.l.ops) (by kernel_rfl) ?_
      refine EL.quick 3 [0, 5, 6, 13] [(0, .pointer (some ⟨g1261, 0, none⟩)), (5, .int .i64 t3167), (6, .int .i64 t3169), (13, .bool (decide (t3167 < 0)))] (by kernel_rfl) ?_
      by_cases h3213 : t3167 < 0
      · rw [if_pos h3213] at H
        refine EL.keep [0, 5, 6, 13] [(0, .pointer (some ⟨g1261, 0, none⟩)), (5, .int .i64 t3167), (6, .int .i64 t3169), (13, .bool (decide (t3167 < 0)))] (by kernel_rfl) ?_
        refine EL.as' [(0, .pointer (some ⟨g1261, 0, none⟩)), (5, .int .i64 t3167), (6, .int .i64 t3169), (13, .bool (true))] (by simp only [dec_t h3213, Bool.not_true, Bool.not_false]) ?_
        refine EL.quick 20 [0, 5, 6, 33] [(0, .pointer (some ⟨g1261, 0, none⟩)), (5, .int .i64 t3167), (6, .int .i64 t3169), (33, .bool (true))] (by kernel_rfl) ?_
        refine EL.done (by kernel_rfl) ?_
        refine EQ.to ?_
        refine EQ.keep [0, 5, 6, 33] [(0, .pointer (some ⟨g1261, 0, none⟩)), (5, .int .i64 t3167), (6, .int .i64 t3169), (33, .bool (true))] (by kernel_rfl) ?_
        exact fun a ha => ⟨true, ha, (hS.re [2, 2, 2] [] rfl (sub_self)), H⟩
      · rw [if_neg h3213] at H
        refine EL.keep [0, 5, 6, 13] [(0, .pointer (some ⟨g1261, 0, none⟩)), (5, .int .i64 t3167), (6, .int .i64 t3169), (13, .bool (decide (t3167 < 0)))] (by kernel_rfl) ?_
        refine EL.as' [(0, .pointer (some ⟨g1261, 0, none⟩)), (5, .int .i64 t3167), (6, .int .i64 t3169), (13, .bool (false))] (by simp only [dec_f h3213, Bool.not_true, Bool.not_false]) ?_
        refine EL.quick 4 [0, 5, 6, 13, 14, 17] [(0, .pointer (some ⟨g1261, 0, none⟩)), (5, .int .i64 t3167), (6, .int .i64 t3169), (13, .bool (false)), (14, .int .i64 t3167), (17, .pointer (some ⟨g1261, 0, none⟩))] (by kernel_rfl) ?_
        refine EL.of (EO.Y (YO.loadBox hS 0 rfl 80 0 1 (.slice A1263 l1262.length C1264) 18 (by kernel_rfl) (by kernel_rfl) (by kernel_rfl) (by kernel_rfl)) ?_)
        refine EL.quick 4 [0, 5, 6, 22] [(0, .pointer (some ⟨g1261, 0, none⟩)), (5, .int .i64 t3167), (6, .int .i64 t3169), (22, .bool (decide (t3167 ≥ (l1262.length : Int))))] (by kernel_rfl) ?_
        by_cases h3214 : t3167 ≥ (l1262.length : Int)
        · rw [if_pos h3214] at H
          refine EL.keep [0, 5, 6, 22] [(0, .pointer (some ⟨g1261, 0, none⟩)), (5, .int .i64 t3167), (6, .int .i64 t3169), (22, .bool (decide (t3167 ≥ (l1262.length : Int))))] (by kernel_rfl) ?_
          refine EL.as' [(0, .pointer (some ⟨g1261, 0, none⟩)), (5, .int .i64 t3167), (6, .int .i64 t3169), (22, .bool (true))] (by simp only [dec_t h3214, Bool.not_true, Bool.not_false]) ?_
          refine EL.quick 11 [0, 5, 6, 33] [(0, .pointer (some ⟨g1261, 0, none⟩)), (5, .int .i64 t3167), (6, .int .i64 t3169), (33, .bool (true))] (by kernel_rfl) ?_
          refine EL.done (by kernel_rfl) ?_
          refine EQ.to ?_
          refine EQ.keep [0, 5, 6, 33] [(0, .pointer (some ⟨g1261, 0, none⟩)), (5, .int .i64 t3167), (6, .int .i64 t3169), (33, .bool (true))] (by kernel_rfl) ?_
          exact fun a ha => ⟨true, ha, (hS.re [2, 2, 2] [] rfl (sub_self)), H⟩
        · rw [if_neg h3214] at H
          refine EL.keep [0, 5, 6, 22] [(0, .pointer (some ⟨g1261, 0, none⟩)), (5, .int .i64 t3167), (6, .int .i64 t3169), (22, .bool (decide (t3167 ≥ (l1262.length : Int))))] (by kernel_rfl) ?_
          refine EL.as' [(0, .pointer (some ⟨g1261, 0, none⟩)), (5, .int .i64 t3167), (6, .int .i64 t3169), (22, .bool (false))] (by simp only [dec_f h3214, Bool.not_true, Bool.not_false]) ?_
          refine EL.quick 4 [0, 5, 6, 22, 23, 26] [(0, .pointer (some ⟨g1261, 0, none⟩)), (5, .int .i64 t3167), (6, .int .i64 t3169), (22, .bool (false)), (23, .int .i64 t3169), (26, .pointer (some ⟨g1261, 0, none⟩))] (by kernel_rfl) ?_
          refine EL.of (EO.Y (YO.loadBox hS 0 rfl 80 0 1 (.slice A1263 l1262.length C1264) 27 (by kernel_rfl) (by kernel_rfl) (by kernel_rfl) (by kernel_rfl)) ?_)
          refine EL.quick 1 [0, 5, 6, 22, 23, 27, 28] [(0, .pointer (some ⟨g1261, 0, none⟩)), (5, .int .i64 t3167), (6, .int .i64 t3169), (22, .bool (false)), (23, .int .i64 t3169), (27, .slice A1263 l1262.length C1264), (28, .int .i64 t3167)] (by kernel_rfl) ?_
          obtain ⟨h3215, H⟩ := ite_in H
          obtain ⟨h3216, H⟩ := ite_in H
          obtain ⟨ad3217, rfl⟩ := St.deep_some hS 1 rfl h3215 h3216
          refine EL.of (EO.Y (YO.idx 80 1 ad3217 l1262.length C1264 .i64 t3167 29 (by kernel_rfl) (by kernel_rfl) (by kernel_rfl) (by kernel_rfl) h3215 h3216) ?_)
          refine EL.of (EO.openEl hS 1 ad3217 rfl t3167 h3215 h3216 (fun A3218 C3219 => Ass.box 99 g1261 [.slice (some ad3217) l1262.length C1264, .slice A1267 l1266.length C1268] :: Ass.holed 87 75 kS75 (some ad3217) C1264 l1262 t3167.toNat (A3218, (l1262.getD t3167.toNat []).length, C3219) :: Ass.own 3 (Kd.int .i64) A1267 C1268 l1266 :: os) 87 30 (by kernel_rfl) (by kernel_rfl) (by kernel_rfl) (by kernel_rfl) (fun _ _ => rfl) ?_)
          intro A3218 C3219 hS
          refine EL.quick 3 [0, 5, 6, 33] [(0, .pointer (some ⟨g1261, 0, none⟩)), (5, .int .i64 t3167), (6, .int .i64 t3169), (33, .bool (decide (t3169 ≥ ((l1262.getD t3167.toNat []).length : Int))))] (by kernel_rfl) ?_
          refine EL.done (by kernel_rfl) ?_
          refine EQ.to ?_
          have hS := St.as (os' := Ass.box 99 g1261 [.slice (some ad3217) l1262.length C1264, .slice A1267 l1266.length C1268] :: Ass.deep 87 75 kS75 (some ad3217) C1264 l1262 :: Ass.own 3 (Kd.int .i64) A1267 C1268 l1266 :: os) (St.close hS 0 1 rfl rfl rfl l1262 (set_getD _ _)) rfl
          refine EQ.keep [0, 5, 6, 33] [(0, .pointer (some ⟨g1261, 0, none⟩)), (5, .int .i64 t3167), (6, .int .i64 t3169), (33, .bool (decide (t3169 ≥ ((l1262.getD t3167.toNat []).length : Int))))] (by kernel_rfl) ?_
          exact fun a ha => ⟨decide (t3169 ≥ ((l1262.getD t3167.toNat []).length : Int)), ha, (hS.re [2, 2, 2] [] rfl (sub_self)), H⟩
    · obtain ⟨x3211, ha, hS, H⟩ := hI
      rw [hj3212] at H
      (try dsimp only at H)
      refine EW.at ?_ a ha
      clear ha a
      refine EW.condP' (o := (.tmp 33)) (x := Cd72.r.r.l.r.l) (y := Cd72.r.r.l.r.r) (x3211) (by kernel_rfl) (by kernel_rfl) (fun h3220 => ?_) (fun h3220 => ?_)
      · rw [if_pos h3220] at H
        refine EW.seq (x := Cd72.r.r.l.r.l.l) (y := Cd72.r.r.l.r.l.r) (by kernel_rfl) ?_
        refine EW.region (id := 3) (ops := Cd72.r.r.l.r.l.l.ops) (by kernel_rfl) ?_
        refine EL.quick 1 [4] [(4, .pointer none)] (by kernel_rfl) ?_
        refine EL.done (by kernel_rfl) ?_
        refine EQ.code ?_
        refine EW.ret (by kernel_rfl) ?_
        refine EQ.ret ?_
        refine EQ.leave (.pointer none) (by kernel_rfl) ⟨_, rfl, ?_⟩
        refine EL.quick 1 [2, 7] [(2, .func (.func 70) #[.agg #[.int .i64 1, .int .i32 a1271, .int .i64 0]] #[]), (7, .pointer none)] (by kernel_rfl) ?_
        refine EL.done (by kernel_rfl) ?_
        refine EQ.code ?_
        refine EW.seq (x := Cd69.r.r.l) (y := Cd69.r.r.r) (by kernel_rfl) ?_
        refine EW.seq (x := Cd69.r.r.l.l) (y := Cd69.r.r.l.r) (by kernel_rfl) ?_
        refine EW.region (id := 2) (ops := Cd69.r.r.l.l.ops) (by kernel_rfl) ?_
        refine EL.quick 9 [2, 7, 19] [(2, .func (.func 70) #[.agg #[.int .i64 1, .int .i32 a1271, .int .i64 0]] #[]), (7, .pointer none), (19, .bool (true))] (by kernel_rfl) ?_
        refine EL.done (by kernel_rfl) ?_
        refine EQ.code ?_
        refine EW.condT (o := (.tmp 19)) (x := Cd69.r.r.l.r.l) (y := Cd69.r.r.l.r.r) (by kernel_rfl) (by kernel_rfl) ?_
        refine EW.seq (x := Cd69.r.r.l.r.l.l) (y := Cd69.r.r.l.r.l.r) (by kernel_rfl) ?_
        refine EW.region (id := 3) (ops := Cd69.r.r.l.r.l.l.ops) (by kernel_rfl) ?_
        refine EL.quick 1 [6] [(6, .bool (false))] (by kernel_rfl) ?_
        refine EL.done (by kernel_rfl) ?_
        refine EQ.code ?_
        refine EW.ret (by kernel_rfl) ?_
        refine EQ.ret ?_
        exact EQ.leave (.bool (false)) (by kernel_rfl) ⟨_, rfl, l1262, false, A1263, C1264, rfl, (hS.re [2, 2, 2] [] rfl (sub_self)), H⟩
      · rw [if_neg h3220] at H
        refine EW.skip (by kernel_rfl) ?_
        refine EQ.code ?_
        refine EW.seq (x := Cd72.r.r.r.l) (y := Cd72.r.r.r.r) (by kernel_rfl) ?_
        refine EW.region (id := 4) (ops := Cd72.r.r.r.l.ops) (by kernel_rfl) ?_
        refine EL.quick 3 [5, 6, 36] [(5, .int .i64 t3167), (6, .int .i64 t3169), (36, .pointer (some ⟨g1261, 0, none⟩))] (by kernel_rfl) ?_
        refine EL.of (EO.Y (YO.loadBox hS 0 rfl 80 0 1 (.slice A1263 l1262.length C1264) 37 (by kernel_rfl) (by kernel_rfl) (by kernel_rfl) (by kernel_rfl)) ?_)
        refine EL.quick 1 [6, 37, 38] [(6, .int .i64 t3169), (37, .slice A1263 l1262.length C1264), (38, .int .i64 t3167)] (by kernel_rfl) ?_
        obtain ⟨h3221, H⟩ := ite_in H
        obtain ⟨h3222, H⟩ := ite_in H
        obtain ⟨ad3223, rfl⟩ := St.deep_some hS 1 rfl h3221 h3222
        refine EL.of (EO.Y (YO.idx 80 1 ad3223 l1262.length C1264 .i64 t3167 39 (by kernel_rfl) (by kernel_rfl) (by kernel_rfl) (by kernel_rfl) h3221 h3222) ?_)
        refine EL.of (EO.openEl hS 1 ad3223 rfl t3167 h3221 h3222 (fun A3224 C3225 => Ass.box 99 g1261 [.slice (some ad3223) l1262.length C1264, .slice A1267 l1266.length C1268] :: Ass.holed 87 75 kS75 (some ad3223) C1264 l1262 t3167.toNat (A3224, (l1262.getD t3167.toNat []).length, C3225) :: Ass.own 3 (Kd.int .i64) A1267 C1268 l1266 :: os) 87 40 (by kernel_rfl) (by kernel_rfl) (by kernel_rfl) (by kernel_rfl) (fun _ _ => rfl) ?_)
        intro A3224 C3225 hS
        refine EL.quick 1 [40, 41] [(40, .slice A3224 (l1262.getD t3167.toNat []).length C3225), (41, .int .i64 t3169)] (by kernel_rfl) ?_
        obtain ⟨h3226, H⟩ := ite_in H
        obtain ⟨h3227, H⟩ := ite_in H
        obtain ⟨ad3228, rfl⟩ := St.rd_some hS (Rd.own 0 75 rfl) h3226 h3227
        refine EL.of (EO.Y (YO.idx 87 4 ad3228 (l1262.getD t3167.toNat []).length C3225 .i64 t3169 42 (by kernel_rfl) (by kernel_rfl) (by kernel_rfl) (by kernel_rfl) h3226 h3227) ?_)
        refine EL.quick 1 [4] [(4, .pointer (some ((ad3228.add (t3169.toNat * 4)).add 0)))] (by kernel_rfl) ?_
        refine EL.done (by kernel_rfl) ?_
        refine EQ.code ?_
        refine EW.ret (by kernel_rfl) ?_
        refine EQ.leave (.pointer (some ((ad3228.add (t3169.toNat * 4)).add 0))) (by kernel_rfl) ⟨_, rfl, ?_⟩
        refine EL.quick 1 [2, 7] [(2, .func (.func 70) #[.agg #[.int .i64 1, .int .i32 a1271, .int .i64 0]] #[]), (7, .pointer (some ((ad3228.add (t3169.toNat * 4)).add 0)))] (by kernel_rfl) ?_
        refine EL.done (by kernel_rfl) ?_
        refine EQ.code ?_
        refine EW.seq (x := Cd69.r.r.l) (y := Cd69.r.r.r) (by kernel_rfl) ?_
        refine EW.seq (x := Cd69.r.r.l.l) (y := Cd69.r.r.l.r) (by kernel_rfl) ?_
        refine EW.region (id := 2) (ops := Cd69.r.r.l.l.ops) (by kernel_rfl) ?_
        refine EL.quick 6 [2, 7, 13, 16] [(2, .func (.func 70) #[.agg #[.int .i64 1, .int .i32 a1271, .int .i64 0]] #[]), (7, .pointer (some ((ad3228.add (t3169.toNat * 4)).add 0))), (13, .bool (false)), (16, .pointer (some ((ad3228.add (t3169.toNat * 4)).add 1)))] (by kernel_rfl) ?_
        refine EL.of (EO.Y (YO.loadEl hS kS75 ad3228 C3225 (l1262.getD t3167.toNat []) (Rd.own 0 75 rfl) zS75 encS75 encS75_of t3169 h3226 h3227 3 4 1 1 rfl (.int .i64 (((l1262.getD t3167.toNat []).getD t3169.toNat zS75).f1)) 17 (by kernel_rfl) (by kernel_rfl) (by kernel_rfl) (by kernel_rfl)) ?_)
        refine EL.quick 2 [2, 7, 19] [(2, .func (.func 70) #[.agg #[.int .i64 1, .int .i32 a1271, .int .i64 0]] #[]), (7, .pointer (some ((ad3228.add (t3169.toNat * 4)).add 0))), (19, .bool (!(decide ((((l1262.getD t3167.toNat []).getD t3169.toNat zS75).f1) = 0))))] (by kernel_rfl) ?_
        refine EL.done (by kernel_rfl) ?_
        refine EQ.code ?_
        refine EW.condQ (b := !(decide ((((l1262.getD t3167.toNat []).getD t3169.toNat zS75).f1) = 0))) (o := (.tmp 19)) (x := Cd69.r.r.l.r.l) (y := Cd69.r.r.l.r.r) ((((l1262.getD t3167.toNat []).getD t3169.toNat zS75).f1) = 0) (false) (by kernel_rfl) (by kernel_rfl) ⟨fun h => (by rw [decide_eq_true h] <;> rfl), fun h => (by rw [decide_eq_false h] <;> rfl)⟩ (fun h3230 => ?_) (fun h3230 => ?_)
        · rw [if_pos h3230] at H
          refine EW.skip (by kernel_rfl) ?_
          refine EQ.code ?_
          refine EW.seq (x := Cd69.r.r.r.l) (y := Cd69.r.r.r.r) (by kernel_rfl) ?_
          refine EW.region (id := 4) (ops := Cd69.r.r.r.l.ops) (by kernel_rfl) ?_
          refine EL.quick 2 [20, 21] [(20, .func (.func 70) #[.agg #[.int .i64 1, .int .i32 a1271, .int .i64 0]] #[]), (21, .pointer (some ((ad3228.add (t3169.toNat * 4)).add 0)))] (by kernel_rfl) ?_
          refine EL.inline 70 [.agg #[.int .i64 1, .int .i32 a1271, .int .i64 0], .pointer (some ((ad3228.add (t3169.toNat * 4)).add 0))] 22 (by kernel_rfl) (by kernel_rfl) (by kernel_rfl) ?_
          refine calls_of_EW (args := [.agg #[.int .i64 1, .int .i32 a1271, .int .i64 0], .pointer (some ((ad3228.add (t3169.toNat * 4)).add 0))]) (c := Cd70) 19 Try.func70 (by kernel_rfl) (by kernel_rfl) (by kernel_rfl) ?_
          refine EW.seq (x := Cd70.l) (y := Cd70.r) (by kernel_rfl) ?_
          refine EW.region (id := 0) (ops := Cd70.l.ops) (by kernel_rfl) ?_
          refine EL.of (EO.box hS 104 (.agg #[.int .i64 1, .int .i32 a1271, .int .i64 0]) [.int .i64 1, .int .i32 a1271, .int .i64 0] 2 (by kernel_rfl) (by kernel_rfl) (by kernel_rfl) (by first | rfl | kernel_rfl) ?_)
          intro g3237 w hS
          refine EL.done (by kernel_rfl) ?_
          refine EQ.code ?_
          obtain ⟨l3238, hl3238, H⟩ := lt_out H
          obtain ⟨l3239, hl3239, H⟩ := lt_out H
          obtain ⟨l3240, hl3240, H⟩ := lt_out H
          have hS := hS.drew
          refine EW.draw (B := B) (id := 1) (ops := Cd70.r.ops) [Ass.box 104 g3237 [.int .i64 1, .int .i32 a1271, .int .i64 0], Ass.box 99 g1261 [.slice (some ad3223) l1262.length C1264, .slice A1267 l1266.length C1268], Ass.holed 87 75 kS75 (some ad3223) C1264 l1262 t3167.toNat ((some ad3228), (l1262.getD t3167.toNat []).length, C3225), Ass.own 3 (Kd.int .i64) A1267 C1268 l1266] [] (by kernel_rfl) (by kernel_rfl) ?_
          have hN : Region.noSelect Cd70.r.ops = true := (by kernel_rfl)
          have hF : freeAll Cd70.r.ops = true := (by kernel_rfl)
          have hC : Core B [Ass.box 104 g3237 [.int .i64 1, .int .i32 a1271, .int .i64 0], Ass.box 99 g1261 [.slice (some ad3223) l1262.length C1264, .slice A1267 l1266.length C1268], Ass.holed 87 75 kS75 (some ad3223) C1264 l1262 t3167.toNat ((some ad3228), (l1262.getD t3167.toNat []).length, C3225), Ass.own 3 (Kd.int .i64) A1267 C1268 l1266] [] _ := ⟨_, _, hS.re [4, 4, 4, 3] [] rfl sub_self⟩
          refine ED.quick hN hF hC [0, 1, 2, 3, 5, 7] [4, 5, 6, 7, 9, 11] 12 [(4, .pointer (some ((ad3228.add (t3169.toNat * 4)).add 0))), (5, .pointer (some ((ad3228.add (t3169.toNat * 4)).add 0))), (6, .pointer (some ((ad3228.add (t3169.toNat * 4)).add 0))), (7, .pointer (some ⟨g3237, 0, none⟩)), (9, .pointer (some ⟨g3237, 1, none⟩)), (11, .pointer (some ⟨g3237, 2, none⟩))] #[true, true, true, true, false, true, false, true, false, false, false, false, false, false, false, false, false, false] (by kernel_rfl) (by kernel_rfl) ?_
          refine ED.Y hN hF hC 4 11 #[true, true, true, true, true, true, false, true, false, false, false, false, false, false, false, false, false, false] (by kernel_rfl) (by kernel_rfl) rfl (fun _ _ _ hS => YO.loadBox hS 0 rfl 3 0 1 (.int .i64 1) 8 (by kernel_rfl) (by kernel_rfl) (by kernel_rfl) (by kernel_rfl)) ?_
          refine ED.quick hN hF hC [9, 10] [5, 6, 8, 9, 11, 14] 9 [(5, .pointer (some ((ad3228.add (t3169.toNat * 4)).add 0))), (6, .pointer (some ((ad3228.add (t3169.toNat * 4)).add 0))), (8, .int .i64 1), (9, .pointer (some ⟨g3237, 1, none⟩)), (11, .pointer (some ⟨g3237, 2, none⟩)), (14, .pointer (some ((ad3228.add (t3169.toNat * 4)).add 1)))] #[true, true, true, true, true, true, false, true, false, true, true, false, false, false, false, false, false, false] (by kernel_rfl) (by kernel_rfl) ?_
          refine ED.Y hN hF hC 6 8 #[true, true, true, true, true, true, true, true, false, true, true, false, false, false, false, false, false, false] (by kernel_rfl) (by kernel_rfl) rfl (fun _ _ _ hS => YO.loadBox hS 0 rfl 21 1 1 (.int .i32 a1271) 10 (by kernel_rfl) (by kernel_rfl) (by kernel_rfl) (by kernel_rfl)) ?_
          refine ED.Y hN hF hC 8 7 #[true, true, true, true, true, true, true, true, true, true, true, false, false, false, false, false, false, false] (by kernel_rfl) (by kernel_rfl) rfl (fun _ _ _ hS => YO.loadBox hS 0 rfl 73 2 1 (.int .i64 0) 12 (by kernel_rfl) (by kernel_rfl) (by kernel_rfl) (by kernel_rfl)) ?_
          refine ED.one 11 6 #[true, true, true, true, true, true, true, true, true, true, true, true, false, false, false, false, false, false] (by kernel_rfl) (by kernel_rfl) (by kernel_rfl) (EO.storeEl hS 1 kS75 75 ad3228 C3225 (l1262.getD t3167.toNat []) rfl t3169 h3226 h3227 zS75 3 4 1 rfl (.int .i64 1) (⟨((l1262.getD t3167.toNat []).getD t3169.toNat zS75).f0, 1, ((l1262.getD t3167.toNat []).getD t3169.toNat zS75).f2, ((l1262.getD t3167.toNat []).getD t3169.toNat zS75).f3⟩ : S75) l3238 hl3238 (Ass.box 104 g3237 [.int .i64 1, .int .i32 a1271, .int .i64 0] :: Ass.own 75 kS75 (some ad3228) C3225 l3238 :: Ass.box 99 g1261 [.slice (some ad3223) l1262.length C1264, .slice A1267 l1266.length C1268] :: Ass.holed 87 75 kS75 (some ad3223) C1264 l1262 t3167.toNat ((some ad3228), (l1262.getD t3167.toNat []).length, C3225) :: Ass.own 3 (Kd.int .i64) A1267 C1268 l1266 :: os) (by kernel_rfl) (by kernel_rfl) (by kernel_rfl) (by kernel_rfl) (by kernel_rfl) (by kernel_rfl) (fun w G vs hr h => (by have e := encS75_of _ _ _ _ h; subst e; exact ⟨[.int .i64 (((l1262.getD t3167.toNat []).getD t3169.toNat zS75).f0)], [.int .i64 1, .int .i32 (((l1262.getD t3167.toNat []).getD t3169.toNat zS75).f2), .int .i64 (((l1262.getD t3167.toNat []).getD t3169.toNat zS75).f3)], rfl, rfl, ⟨[.int .i64 1], [.int .i32 (((l1262.getD t3167.toNat []).getD t3169.toNat zS75).f2), .int .i64 (((l1262.getD t3167.toNat []).getD t3169.toNat zS75).f3)], rfl, rfl, ⟨[.int .i32 (((l1262.getD t3167.toNat []).getD t3169.toNat zS75).f2)], [.int .i64 (((l1262.getD t3167.toNat []).getD t3169.toNat zS75).f3)], rfl, rfl, ⟨[.int .i64 (((l1262.getD t3167.toNat []).getD t3169.toNat zS75).f3)], [], rfl, rfl, rfl⟩⟩⟩⟩)) rfl ?_)
          intro w hS
          have hC : Core B [Ass.box 104 g3237 [.int .i64 1, .int .i32 a1271, .int .i64 0], Ass.box 99 g1261 [.slice (some ad3223) l1262.length C1264, .slice A1267 l1266.length C1268], Ass.holed 87 75 kS75 (some ad3223) C1264 l1262 t3167.toNat ((some ad3228), (l1262.getD t3167.toNat []).length, C3225), Ass.own 3 (Kd.int .i64) A1267 C1268 l1266] [] _ := ⟨_, _, hS.re [4, 4, 4, 3] [] rfl sub_self⟩
          refine ⟨hC, ?_⟩
          refine ED.quick hN hF hC [12, 13] [6, 10, 12, 16] 4 [(6, .pointer (some ((ad3228.add (t3169.toNat * 4)).add 0))), (10, .int .i32 a1271), (12, .int .i64 0), (16, .pointer (some ((ad3228.add (t3169.toNat * 4)).add 2)))] #[true, true, true, true, true, true, true, true, true, true, true, true, true, true, false, false, false, false] (by kernel_rfl) (by kernel_rfl) ?_
          refine ED.one 14 3 #[true, true, true, true, true, true, true, true, true, true, true, true, true, true, true, false, false, false] (by kernel_rfl) (by kernel_rfl) (by kernel_rfl) (EO.storeEl hS 1 kS75 75 ad3228 C3225 l3238 rfl t3169 h3226 (lt_set h3227 hl3238) zS75 21 4 2 rfl (.int .i32 a1271) (⟨(l3238.getD t3169.toNat zS75).f0, (l3238.getD t3169.toNat zS75).f1, a1271, (l3238.getD t3169.toNat zS75).f3⟩ : S75) l3239 hl3239 (Ass.box 104 g3237 [.int .i64 1, .int .i32 a1271, .int .i64 0] :: Ass.own 75 kS75 (some ad3228) C3225 l3239 :: Ass.box 99 g1261 [.slice (some ad3223) l1262.length C1264, .slice A1267 l1266.length C1268] :: Ass.holed 87 75 kS75 (some ad3223) C1264 l1262 t3167.toNat ((some ad3228), (l1262.getD t3167.toNat []).length, C3225) :: Ass.own 3 (Kd.int .i64) A1267 C1268 l1266 :: os) (by kernel_rfl) (by kernel_rfl) (by kernel_rfl) (by kernel_rfl) (by kernel_rfl) (by kernel_rfl) (fun w G vs hr h => (by have e := encS75_of _ _ _ _ h; subst e; exact ⟨[.int .i64 ((l3238.getD t3169.toNat zS75).f0)], [.int .i64 ((l3238.getD t3169.toNat zS75).f1), .int .i32 a1271, .int .i64 ((l3238.getD t3169.toNat zS75).f3)], rfl, rfl, ⟨[.int .i64 ((l3238.getD t3169.toNat zS75).f1)], [.int .i32 a1271, .int .i64 ((l3238.getD t3169.toNat zS75).f3)], rfl, rfl, ⟨[.int .i32 a1271], [.int .i64 ((l3238.getD t3169.toNat zS75).f3)], rfl, rfl, ⟨[.int .i64 ((l3238.getD t3169.toNat zS75).f3)], [], rfl, rfl, rfl⟩⟩⟩⟩)) rfl ?_)
          intro w hS
          have hC : Core B [Ass.box 104 g3237 [.int .i64 1, .int .i32 a1271, .int .i64 0], Ass.box 99 g1261 [.slice (some ad3223) l1262.length C1264, .slice A1267 l1266.length C1268], Ass.holed 87 75 kS75 (some ad3223) C1264 l1262 t3167.toNat ((some ad3228), (l1262.getD t3167.toNat []).length, C3225), Ass.own 3 (Kd.int .i64) A1267 C1268 l1266] [] _ := ⟨_, _, hS.re [4, 4, 4, 3] [] rfl sub_self⟩
          refine ⟨hC, ?_⟩
          refine ED.quick hN hF hC [15, 16] [12, 18] 1 [(12, .int .i64 0), (18, .pointer (some ((ad3228.add (t3169.toNat * 4)).add 3)))] #[true, true, true, true, true, true, true, true, true, true, true, true, true, true, true, true, true, false] (by kernel_rfl) (by kernel_rfl) ?_
          refine ED.one 17 0 #[true, true, true, true, true, true, true, true, true, true, true, true, true, true, true, true, true, true] (by kernel_rfl) (by kernel_rfl) (by kernel_rfl) (EO.storeEl hS 1 kS75 75 ad3228 C3225 l3239 rfl t3169 h3226 (lt_set (lt_set h3227 hl3238) hl3239) zS75 73 4 3 rfl (.int .i64 0) (⟨(l3239.getD t3169.toNat zS75).f0, (l3239.getD t3169.toNat zS75).f1, (l3239.getD t3169.toNat zS75).f2, 0⟩ : S75) l3240 hl3240 (Ass.box 104 g3237 [.int .i64 1, .int .i32 a1271, .int .i64 0] :: Ass.own 75 kS75 (some ad3228) C3225 l3240 :: Ass.box 99 g1261 [.slice (some ad3223) l1262.length C1264, .slice A1267 l1266.length C1268] :: Ass.holed 87 75 kS75 (some ad3223) C1264 l1262 t3167.toNat ((some ad3228), (l1262.getD t3167.toNat []).length, C3225) :: Ass.own 3 (Kd.int .i64) A1267 C1268 l1266 :: os) (by kernel_rfl) (by kernel_rfl) (by kernel_rfl) (by kernel_rfl) (by kernel_rfl) (by kernel_rfl) (fun w G vs hr h => (by have e := encS75_of _ _ _ _ h; subst e; exact ⟨[.int .i64 ((l3239.getD t3169.toNat zS75).f0)], [.int .i64 ((l3239.getD t3169.toNat zS75).f1), .int .i32 ((l3239.getD t3169.toNat zS75).f2), .int .i64 0], rfl, rfl, ⟨[.int .i64 ((l3239.getD t3169.toNat zS75).f1)], [.int .i32 ((l3239.getD t3169.toNat zS75).f2), .int .i64 0], rfl, rfl, ⟨[.int .i32 ((l3239.getD t3169.toNat zS75).f2)], [.int .i64 0], rfl, rfl, ⟨[.int .i64 0], [], rfl, rfl, rfl⟩⟩⟩⟩)) rfl ?_)
          intro w hS
          have hC : Core B [Ass.box 104 g3237 [.int .i64 1, .int .i32 a1271, .int .i64 0], Ass.box 99 g1261 [.slice (some ad3223) l1262.length C1264, .slice A1267 l1266.length C1268], Ass.holed 87 75 kS75 (some ad3223) C1264 l1262 t3167.toNat ((some ad3228), (l1262.getD t3167.toNat []).length, C3225), Ass.own 3 (Kd.int .i64) A1267 C1268 l1266] [] _ := ⟨_, _, hS.re [4, 4, 4, 3] [] rfl sub_self⟩
          refine ⟨hC, ?_⟩
          refine ED.done (by kernel_rfl) ?_
          refine EQ.leaveN (.tuple #[]) (by kernel_rfl) ⟨_, rfl, ?_⟩
          refine EL.done (by kernel_rfl) ?_
          refine EQ.code ?_
          refine EW.seq (x := Cd69.r.r.r.r.l) (y := Cd69.r.r.r.r.r) (by kernel_rfl) ?_
          refine EW.region (id := 5) (ops := Cd69.r.r.r.r.l.ops) (by kernel_rfl) ?_
          refine EL.quick 1 [6] [(6, .bool (true))] (by kernel_rfl) ?_
          refine EL.done (by kernel_rfl) ?_
          refine EQ.code ?_
          refine EW.ret (by kernel_rfl) ?_
          have hS := St.as (os' := Ass.box 104 g3237 [.int .i64 1, .int .i32 a1271, .int .i64 0] :: Ass.box 99 g1261 [.slice (some ad3223) l1262.length C1264, .slice A1267 l1266.length C1268] :: Ass.deep 87 75 kS75 (some ad3223) C1264 (l1262.set t3167.toNat l3240) :: Ass.own 3 (Kd.int .i64) A1267 C1268 l1266 :: os) (St.close hS 1 2 rfl rfl (len_set (len_set (len_set rfl hl3238) hl3239) hl3240) (l1262.set t3167.toNat l3240) rfl) rfl
          have hS := St.as hS (os' := Ass.box 104 g3237 [.int .i64 1, .int .i32 a1271, .int .i64 0] :: Ass.box 99 g1261 [.slice (some ad3223) (l1262.set t3167.toNat l3240).length C1264, .slice A1267 l1266.length C1268] :: Ass.deep 87 75 kS75 (some ad3223) C1264 (l1262.set t3167.toNat l3240) :: Ass.own 3 (Kd.int .i64) A1267 C1268 l1266 :: os) (by simp only [List.length_set])
          exact EQ.leave (.bool (true)) (by kernel_rfl) ⟨_, rfl, (l1262.set t3167.toNat l3240), true, (some ad3223), C1264, rfl, (hS.re [3, 3, 3] [3] rfl (sub_self)), H⟩
        · rw [if_neg h3230] at H
          refine EW.seq (x := Cd69.r.r.l.r.l.l) (y := Cd69.r.r.l.r.l.r) (by kernel_rfl) ?_
          refine EW.region (id := 3) (ops := Cd69.r.r.l.r.l.l.ops) (by kernel_rfl) ?_
          refine EL.quick 1 [6] [(6, .bool (false))] (by kernel_rfl) ?_
          refine EL.done (by kernel_rfl) ?_
          refine EQ.code ?_
          refine EW.ret (by kernel_rfl) ?_
          refine EQ.ret ?_
          have hS := St.as (os' := Ass.box 99 g1261 [.slice (some ad3223) l1262.length C1264, .slice A1267 l1266.length C1268] :: Ass.deep 87 75 kS75 (some ad3223) C1264 l1262 :: Ass.own 3 (Kd.int .i64) A1267 C1268 l1266 :: os) (St.close hS 0 1 rfl rfl rfl l1262 (set_getD _ _)) rfl
          exact EQ.leave (.bool (false)) (by kernel_rfl) ⟨_, rfl, l1262, false, (some ad3223), C1264, rfl, (hS.re [2, 2, 2] [] rfl (sub_self)), H⟩
  · rintro v w ⟨x2960, x2963, A2961, C2962, rfl, hS, H⟩
    rw [hj2964] at H
    (try dsimp only at H)
    refine EL.quick 1 [6] [(6, .bool (x2963))] (by kernel_rfl) ?_
    refine EL.done (by kernel_rfl) ?_
    refine EQ.code ?_
    refine EW.ret (by kernel_rfl) ?_
    simp only [Option.some.injEq, Prod.mk.injEq] at H
    obtain ⟨rfl, rfl⟩ := H
    exact EQ.leave (.bool (x2963)) (by kernel_rfl) ⟨_, rfl, A2961, C2962, rfl, (hS.re [2, 2, 2] [] rfl (sub_self))⟩

/-! ### (*confidant/future.Futures).Break: function 50 -/
def future_Futures_Break.f (K : Nat) (l3253 : List (List S75)) (l3257 : List Int) (a3261 : Int) (a3262 : Int) : Option (List (List S75) × Bool) := lt (fun (x4652 : List (List S75)) (x4655 : Bool) => (some (x4652, x4655))) fun j4656 => (b1 (ident_Label.f K a3261) fun (t4859 : Int) => (b1 (ident_Number.f K a3261) fun (t4861 : Int) => (lt (fun (x4903 : Bool) => (if x4903 = true then (j4656 l3253 false) else (if 0 ≤ t4859 then (if t4859 < (l3253.length : Int) then (if 0 ≤ t4861 then (if t4861 < ((l3253.getD t4859.toNat []).length : Int) then (if (((l3253.getD t4859.toNat []).getD t4861.toNat zS75).f1) = 0 then (lt ((l3253.getD t4859.toNat []).set t4861.toNat (⟨((l3253.getD t4859.toNat []).getD t4861.toNat zS75).f0, 2, ((l3253.getD t4859.toNat []).getD t4861.toNat zS75).f2, ((l3253.getD t4859.toNat []).getD t4861.toNat zS75).f3⟩ : S75)) fun l4930 => (lt (l4930.set t4861.toNat (⟨(l4930.getD t4861.toNat zS75).f0, (l4930.getD t4861.toNat zS75).f1, 0, (l4930.getD t4861.toNat zS75).f3⟩ : S75)) fun l4931 => (lt (l4931.set t4861.toNat (⟨(l4931.getD t4861.toNat zS75).f0, (l4931.getD t4861.toNat zS75).f1, (l4931.getD t4861.toNat zS75).f2, a3262⟩ : S75)) fun l4932 => (j4656 (l3253.set t4859.toNat l4932) true)))) else (j4656 l3253 false)) else none) else none) else none) else none))) fun j4904 => (if t4859 < 0 then (j4904 true) else (if t4859 ≥ (l3253.length : Int) then (j4904 true) else (if 0 ≤ t4859 then (if t4859 < (l3253.length : Int) then (j4904 (decide (t4861 ≥ ((l3253.getD t4859.toNat []).length : Int)))) else none) else none))))))
set_option maxRecDepth 100000 in
theorem future_Futures_Break.calls {K : Nat} {l3253 : List (List S75)} {l3257 : List Int} {a3261 : Int} {a3262 : Int} {g3252 : Nat} {A3254 : Option Addr} {C3255 : Nat} {A3258 : Option Addr} {C3259 : Nat} {x4096 : List (List S75)} {x4099 : Bool} {B w : World} {os : List Ass} {rs : List Ro} (H : future_Futures_Break.f K l3253 l3257 a3261 a3262 = some (x4096, x4099)) (hS : St B w (Ass.box 99 g3252 [.slice A3254 l3253.length C3255, .slice A3258 l3257.length C3259] :: Ass.deep 87 75 kS75 A3254 C3255 l3253 :: Ass.own 3 (Kd.int .i64) A3258 C3259 l3257 :: os) (rs)) :
    Calls Try.prog 50 [.pointer (some ⟨g3252, 0, none⟩), .int .i32 a3261, .int .i64 a3262].toArray w (fun en w' => ∃ v, en = .returned v ∧ ∃ A4097 : Option Addr, ∃ C4098 : Nat, v = .bool (x4099) ∧ St B w' (Ass.box 99 g3252 [.slice A4097 x4096.length C4098, .slice A3258 l3257.length C3259] :: Ass.deep 87 75 kS75 A4097 C4098 x4096 :: Ass.own 3 (Kd.int .i64) A3258 C3259 l3257 :: os) (rs)) := by
  unfold future_Futures_Break.f at H
  refine calls_of_EW (args := [.pointer (some ⟨g3252, 0, none⟩), .int .i32 a3261, .int .i64 a3262]) (c := Cd50) 13 Try.func50 (by kernel_rfl) (by kernel_rfl) (by kernel_rfl) ?_
  refine EW.seq (x := Cd50.l) (y := Cd50.r) (by kernel_rfl) ?_
  refine EW.region (id := 0) (ops := Cd50.l.ops) (by kernel_rfl) ?_
  refine EL.quick 1 [0, 1, 2] [(0, .pointer (some ⟨g3252, 0, none⟩)), (1, .int .i32 a3261), (2, .int .i64 a3262)] (by kernel_rfl) ?_
  refine EL.done (by kernel_rfl) ?_
  refine EQ.code ?_
  refine EW.seq (x := Cd50.r.l) (y := Cd50.r.r) (by kernel_rfl) ?_
  refine EW.region (id := 1) (ops := Cd50.r.l.ops) (by kernel_rfl) ?_
  refine EL.quick 5 [7, 8, 11] [(7, .pointer (some ⟨g3252, 0, none⟩)), (8, .int .i32 a3261), (11, .func (.func 70) #[.agg #[.int .i64 2, .int .i32 0, .int .i64 a3262]] #[])] (by kernel_rfl) ?_
  obtain ⟨j4656, hj4656, H⟩ := lt_out H
  refine EL.of (EO.callD 69 [.pointer (some ⟨g3252, 0, none⟩), .int .i32 a3261, .func (.func 70) #[.agg #[.int .i64 2, .int .i32 0, .int .i64 a3262]] #[]] (fun v w => ∃ x4652 : List (List S75), ∃ x4655 : Bool, ∃ A4653 : Option Addr, ∃ C4654 : Nat, v = .bool (x4655) ∧ St B w (Ass.box 99 g3252 [.slice A4653 x4652.length C4654, .slice A3258 l3257.length C3259] :: Ass.deep 87 75 kS75 A4653 C4654 x4652 :: Ass.own 3 (Kd.int .i64) A3258 C3259 l3257 :: os) (rs) ∧ j4656 x4652 x4655 = some (x4096, x4099)) 12 (by kernel_rfl) (by kernel_rfl) (by kernel_rfl) ?_ ?_)
  · refine calls_of_EW (args := [.pointer (some ⟨g3252, 0, none⟩), .int .i32 a3261, .func (.func 70) #[.agg #[.int .i64 2, .int .i32 0, .int .i64 a3262]] #[]]) (c := Cd69) 23 Try.func69 (by kernel_rfl) (by kernel_rfl) (by kernel_rfl) ?_
    refine EW.seq (x := Cd69.l) (y := Cd69.r) (by kernel_rfl) ?_
    refine EW.region (id := 0) (ops := Cd69.l.ops) (by kernel_rfl) ?_
    refine EL.quick 1 [0, 1, 2] [(0, .pointer (some ⟨g3252, 0, none⟩)), (1, .int .i32 a3261), (2, .func (.func 70) #[.agg #[.int .i64 2, .int .i32 0, .int .i64 a3262]] #[])] (by kernel_rfl) ?_
    refine EL.done (by kernel_rfl) ?_
    refine EQ.code ?_
    refine EW.seq (x := Cd69.r.l) (y := Cd69.r.r) (by kernel_rfl) ?_
    refine EW.region (id := 1) (ops := Cd69.r.l.ops) (by kernel_rfl) ?_
    refine EL.quick 2 [2, 8, 9] [(2, .func (.func 70) #[.agg #[.int .i64 2, .int .i32 0, .int .i64 a3262]] #[]), (8, .pointer (some ⟨g3252, 0, none⟩)), (9, .int .i32 a3261)] (by kernel_rfl) ?_
    refine EL.inline 72 [.pointer (some ⟨g3252, 0, none⟩), .int .i32 a3261] 10 (by kernel_rfl) (by kernel_rfl) (by kernel_rfl) ?_
    refine calls_of_EW (args := [.pointer (some ⟨g3252, 0, none⟩), .int .i32 a3261]) (c := Cd72) 43 Try.func72 (by kernel_rfl) (by kernel_rfl) (by kernel_rfl) ?_
    refine EW.seq (x := Cd72.l) (y := Cd72.r) (by kernel_rfl) ?_
    refine EW.region (id := 0) (ops := Cd72.l.ops) (by kernel_rfl) ?_
    refine EL.quick 1 [0, 1] [(0, .pointer (some ⟨g3252, 0, none⟩)), (1, .int .i32 a3261)] (by kernel_rfl) ?_
    refine EL.done (by kernel_rfl) ?_
    refine EQ.code ?_
    refine EW.seq (x := Cd72.r.l) (y := Cd72.r.r) (by kernel_rfl) ?_
    refine EW.region (id := 1) (ops := Cd72.r.l.ops) (by kernel_rfl) ?_
    refine EL.quick 1 [0, 1, 7] [(0, .pointer (some ⟨g3252, 0, none⟩)), (1, .int .i32 a3261), (7, .int .i32 a3261)] (by kernel_rfl) ?_
    obtain ⟨t4859, hc4860, H⟩ := b1_out H
    refine EL.of (EO.callD 80 [.int .i32 a3261] _ 8 (by kernel_rfl) (by kernel_rfl) (by kernel_rfl) (ident_Label.calls hc4860 hS) ?_)
    rintro v w ⟨rfl, hS⟩
    refine EL.quick 1 [0, 8, 9] [(0, .pointer (some ⟨g3252, 0, none⟩)), (8, .int .i64 t4859), (9, .int .i32 a3261)] (by kernel_rfl) ?_
    obtain ⟨t4861, hc4862, H⟩ := b1_out H
    refine EL.of (EO.callD 81 [.int .i32 a3261] _ 10 (by kernel_rfl) (by kernel_rfl) (by kernel_rfl) (ident_Number.calls hc4862 hS) ?_)
    rintro v w ⟨rfl, hS⟩
    refine EL.quick 2 [0, 5, 6] [(0, .pointer (some ⟨g3252, 0, none⟩)), (5, .int .i64 t4859), (6, .int .i64 t4861)] (by kernel_rfl) ?_
    refine EL.done (by kernel_rfl) ?_
    refine EQ.code ?_
    refine EW.seq (x := Cd72.r.r.l) (y := Cd72.r.r.r) (by kernel_rfl) ?_
    obtain ⟨j4904, hj4904, H⟩ := lt_out H
    refine EW.cut (x := Cd72.r.r.l.l) (y := Cd72.r.r.l.r) (fun a w => ∃ x4903 : Bool, Sat 43 [(0, .pointer (some ⟨g3252, 0, none⟩)), (5, .int .i64 t4859), (6, .int .i64 t4861), (33, .bool (x4903))] a ∧ St B w (Ass.box 99 g3252 [.slice A3254 l3253.length C3255, .slice A3258 l3257.length C3259] :: Ass.deep 87 75 kS75 A3254 C3255 l3253 :: Ass.own 3 (Kd.int .i64) A3258 C3259 l3257 :: os) (rs) ∧ j4904 x4903 = some (x4096, x4099)) (by kernel_rfl) ?_ (fun a w hI => ?_)
    · refine EW.region (id := 2) (ops := Cd72.r.r.l.l.ops) (by kernel_rfl) ?_
      refine EL.quick 3 [0, 5, 6, 13] [(0, .pointer (some ⟨g3252, 0, none⟩)), (5, .int .i64 t4859), (6, .int .i64 t4861), (13, .bool (decide (t4859 < 0)))] (by kernel_rfl) ?_
      by_cases h4905 : t4859 < 0
      · rw [if_pos h4905] at H
        refine EL.keep [0, 5, 6, 13] [(0, .pointer (some ⟨g3252, 0, none⟩)), (5, .int .i64 t4859), (6, .int .i64 t4861), (13, .bool (decide (t4859 < 0)))] (by kernel_rfl) ?_
        refine EL.as' [(0, .pointer (some ⟨g3252, 0, none⟩)), (5, .int .i64 t4859), (6, .int .i64 t4861), (13, .bool (true))] (by simp only [dec_t h4905, Bool.not_true, Bool.not_false]) ?_
        refine EL.quick 20 [0, 5, 6, 33] [(0, .pointer (some ⟨g3252, 0, none⟩)), (5, .int .i64 t4859), (6, .int .i64 t4861), (33, .bool (true))] (by kernel_rfl) ?_
        refine EL.done (by kernel_rfl) ?_
        refine EQ.to ?_
        refine EQ.keep [0, 5, 6, 33] [(0, .pointer (some ⟨g3252, 0, none⟩)), (5, .int .i64 t4859), (6, .int .i64 t4861), (33, .bool (true))] (by kernel_rfl) ?_
        exact fun a ha => ⟨true, ha, (hS.re [2, 2, 2] [] rfl (sub_self)), H⟩
      · rw [if_neg h4905] at H
        refine EL.keep [0, 5, 6, 13] [(0, .pointer (some ⟨g3252, 0, none⟩)), (5, .int .i64 t4859), (6, .int .i64 t4861), (13, .bool (decide (t4859 < 0)))] (by kernel_rfl) ?_
        refine EL.as' [(0, .pointer (some ⟨g3252, 0, none⟩)), (5, .int .i64 t4859), (6, .int .i64 t4861), (13, .bool (false))] (by simp only [dec_f h4905, Bool.not_true, Bool.not_false]) ?_
        refine EL.quick 4 [0, 5, 6, 13, 14, 17] [(0, .pointer (some ⟨g3252, 0, none⟩)), (5, .int .i64 t4859), (6, .int .i64 t4861), (13, .bool (false)), (14, .int .i64 t4859), (17, .pointer (some ⟨g3252, 0, none⟩))] (by kernel_rfl) ?_
        refine EL.of (EO.Y (YO.loadBox hS 0 rfl 80 0 1 (.slice A3254 l3253.length C3255) 18 (by kernel_rfl) (by kernel_rfl) (by kernel_rfl) (by kernel_rfl)) ?_)
        refine EL.quick 4 [0, 5, 6, 22] [(0, .pointer (some ⟨g3252, 0, none⟩)), (5, .int .i64 t4859), (6, .int .i64 t4861), (22, .bool (decide (t4859 ≥ (l3253.length : Int))))] (by kernel_rfl) ?_
        by_cases h4906 : t4859 ≥ (l3253.length : Int)
        · rw [if_pos h4906] at H
          refine EL.keep [0, 5, 6, 22] [(0, .pointer (some ⟨g3252, 0, none⟩)), (5, .int .i64 t4859), (6, .int .i64 t4861), (22, .bool (decide (t4859 ≥ (l3253.length : Int))))] (by kernel_rfl) ?_
          refine EL.as' [(0, .pointer (some ⟨g3252, 0, none⟩)), (5, .int .i64 t4859), (6, .int .i64 t4861), (22, .bool (true))] (by simp only [dec_t h4906, Bool.not_true, Bool.not_false]) ?_
          refine EL.quick 11 [0, 5, 6, 33] [(0, .pointer (some ⟨g3252, 0, none⟩)), (5, .int .i64 t4859), (6, .int .i64 t4861), (33, .bool (true))] (by kernel_rfl) ?_
          refine EL.done (by kernel_rfl) ?_
          refine EQ.to ?_
          refine EQ.keep [0, 5, 6, 33] [(0, .pointer (some ⟨g3252, 0, none⟩)), (5, .int .i64 t4859), (6, .int .i64 t4861), (33, .bool (true))] (by kernel_rfl) ?_
          exact fun a ha => ⟨true, ha, (hS.re [2, 2, 2] [] rfl (sub_self)), H⟩
        · rw [if_neg h4906] at H
          refine EL.keep [0, 5, 6, 22] [(0, .pointer (some ⟨g3252, 0, none⟩)), (5, .int .i64 t4859), (6, .int .i64 t4861), (22, .bool (decide (t4859 ≥ (l3253.length : Int))))] (by kernel_rfl) ?_
          refine EL.as' [(0, .pointer (some ⟨g3252, 0, none⟩)), (5, .int .i64 t4859), (6, .int .i64 t4861), (22, .bool (false))] (by simp only [dec_f h4906, Bool.not_true, Bool.not_false]) ?_
          refine EL.quick 4 [0, 5, 6, 22, 23, 26] [(0, .pointer (some ⟨g3252, 0, none⟩)), (5, .int .i64 t4859), (6, .int .i64 t4861), (22, .bool (false)), (23, .int .i64 t4861), (26, .pointer (some ⟨g3252, 0, none⟩))] (by kernel_rfl) ?_
          refine EL.of (EO.Y (YO.loadBox hS 0 rfl 80 0 1 (.slice A3254 l3253.length C3255) 27 (by kernel_rfl) (by kernel_rfl) (by kernel_rfl) (by kernel_rfl)) ?_)
          refine EL.quick 1 [0, 5, 6, 22, 23, 27, 28] [(0, .pointer (some ⟨g3252, 0, none⟩)), (5, .int .i64 t4859), (6, .int .i64 t4861), (22, .bool (false)), (23, .int .i64 t4861), (27, .slice A3254 l3253.length C3255), (28, .int .i64 t4859)] (by kernel_rfl) ?_
          obtain ⟨h4907, H⟩ := ite_in H
          obtain ⟨h4908, H⟩ := ite_in H
          obtain ⟨ad4909, rfl⟩ := St.deep_some hS 1 rfl h4907 h4908
          refine EL.of (EO.Y (YO.idx 80 1 ad4909 l3253.length C3255 .i64 t4859 29 (by kernel_rfl) (by kernel_rfl) (by kernel_rfl) (by kernel_rfl) h4907 h4908) ?_)
          refine EL.of (EO.openEl hS 1 ad4909 rfl t4859 h4907 h4908 (fun A4910 C4911 => Ass.box 99 g3252 [.slice (some ad4909) l3253.length C3255, .slice A3258 l3257.length C3259] :: Ass.holed 87 75 kS75 (some ad4909) C3255 l3253 t4859.toNat (A4910, (l3253.getD t4859.toNat []).length, C4911) :: Ass.own 3 (Kd.int .i64) A3258 C3259 l3257 :: os) 87 30 (by kernel_rfl) (by kernel_rfl) (by kernel_rfl) (by kernel_rfl) (fun _ _ => rfl) ?_)
          intro A4910 C4911 hS
          refine EL.quick 3 [0, 5, 6, 33] [(0, .pointer (some ⟨g3252, 0, none⟩)), (5, .int .i64 t4859), (6, .int .i64 t4861), (33, .bool (decide (t4861 ≥ ((l3253.getD t4859.toNat []).length : Int))))] (by kernel_rfl) ?_
          refine EL.done (by kernel_rfl) ?_
          refine EQ.to ?_
          have hS := St.as (os' := Ass.box 99 g3252 [.slice (some ad4909) l3253.length C3255, .slice A3258 l3257.length C3259] :: Ass.deep 87 75 kS75 (some ad4909) C3255 l3253 :: Ass.own 3 (Kd.int .i64) A3258 C3259 l3257 :: os) (St.close hS 0 1 rfl rfl rfl l3253 (set_getD _ _)) rfl
          refine EQ.keep [0, 5, 6, 33] [(0, .pointer (some ⟨g3252, 0, none⟩)), (5, .int .i64 t4859), (6, .int .i64 t4861), (33, .bool (decide (t4861 ≥ ((l3253.getD t4859.toNat []).length : Int))))] (by kernel_rfl) ?_
          exact fun a ha => ⟨decide (t4861 ≥ ((l3253.getD t4859.toNat []).length : Int)), ha, (hS.re [2, 2, 2] [] rfl (sub_self)), H⟩
    · obtain ⟨x4903, ha, hS, H⟩ := hI
      rw [hj4904] at H
      (try dsimp only at H)
      refine EW.at ?_ a ha
      clear ha a
      refine EW.condP' (o := (.tmp 33)) (x := Cd72.r.r.l.r.l) (y := Cd72.r.r.l.r.r) (x4903) (by kernel_rfl) (by kernel_rfl) (fun h4912 => ?_) (fun h4912 => ?_)
      · rw [if_pos h4912] at H
        refine EW.seq (x := Cd72.r.r.l.r.l.l) (y := Cd72.r.r.l.r.l.r) (by kernel_rfl) ?_
        refine EW.region (id := 3) (ops := Cd72.r.r.l.r.l.l.ops) (by kernel_rfl) ?_
        refine EL.quick 1 [4] [(4, .pointer none)] (by kernel_rfl) ?_
        refine EL.done (by kernel_rfl) ?_
        refine EQ.code ?_
        refine EW.ret (by kernel_rfl) ?_
        refine EQ.ret ?_
        refine EQ.leave (.pointer none) (by kernel_rfl) ⟨_, rfl, ?_⟩
        refine EL.quick 1 [2, 7] [(2, .func (.func 70) #[.agg #[.int .i64 2, .int .i32 0, .int .i64 a3262]] #[]), (7, .pointer none)] (by kernel_rfl) ?_
        refine EL.done (by kernel_rfl) ?_
        refine EQ.code ?_
        refine EW.seq (x := Cd69.r.r.l) (y := Cd69.r.r.r) (by kernel_rfl) ?_
        refine EW.seq (x := Cd69.r.r.l.l) (y := Cd69.r.r.l.r) (by kernel_rfl) ?_
        refine EW.region (id := 2) (ops := Cd69.r.r.l.l.ops) (by kernel_rfl) ?_
        refine EL.quick 9 [2, 7, 19] [(2, .func (.func 70) #[.agg #[.int .i64 2, .int .i32 0, .int .i64 a3262]] #[]), (7, .pointer none), (19, .bool (true))] (by kernel_rfl) ?_
        refine EL.done (by kernel_rfl) ?_
        refine EQ.code ?_
        refine EW.condT (o := (.tmp 19)) (x := Cd69.r.r.l.r.l) (y := Cd69.r.r.l.r.r) (by kernel_rfl) (by kernel_rfl) ?_
        refine EW.seq (x := Cd69.r.r.l.r.l.l) (y := Cd69.r.r.l.r.l.r) (by kernel_rfl) ?_
        refine EW.region (id := 3) (ops := Cd69.r.r.l.r.l.l.ops) (by kernel_rfl) ?_
        refine EL.quick 1 [6] [(6, .bool (false))] (by kernel_rfl) ?_
        refine EL.done (by kernel_rfl) ?_
        refine EQ.code ?_
        refine EW.ret (by kernel_rfl) ?_
        refine EQ.ret ?_
        exact EQ.leave (.bool (false)) (by kernel_rfl) ⟨_, rfl, l3253, false, A3254, C3255, rfl, (hS.re [2, 2, 2] [] rfl (sub_self)), H⟩
      · rw [if_neg h4912] at H
        refine EW.skip (by kernel_rfl) ?_
        refine EQ.code ?_
        refine EW.seq (x := Cd72.r.r.r.l) (y := Cd72.r.r.r.r) (by kernel_rfl) ?_
        refine EW.region (id := 4) (ops := Cd72.r.r.r.l.ops) (by kernel_rfl) ?_
        refine EL.quick 3 [5, 6, 36] [(5, .int .i64 t4859), (6, .int .i64 t4861), (36, .pointer (some ⟨g3252, 0, none⟩))] (by kernel_rfl) ?_
        refine EL.of (EO.Y (YO.loadBox hS 0 rfl 80 0 1 (.slice A3254 l3253.length C3255) 37 (by kernel_rfl) (by kernel_rfl) (by kernel_rfl) (by kernel_rfl)) ?_)
        refine EL.quick 1 [6, 37, 38] [(6, .int .i64 t4861), (37, .slice A3254 l3253.length C3255), (38, .int .i64 t4859)] (by kernel_rfl) ?_
        obtain ⟨h4913, H⟩ := ite_in H
        obtain ⟨h4914, H⟩ := ite_in H
        obtain ⟨ad4915, rfl⟩ := St.deep_some hS 1 rfl h4913 h4914
        refine EL.of (EO.Y (YO.idx 80 1 ad4915 l3253.length C3255 .i64 t4859 39 (by kernel_rfl) (by kernel_rfl) (by kernel_rfl) (by kernel_rfl) h4913 h4914) ?_)
        refine EL.of (EO.openEl hS 1 ad4915 rfl t4859 h4913 h4914 (fun A4916 C4917 => Ass.box 99 g3252 [.slice (some ad4915) l3253.length C3255, .slice A3258 l3257.length C3259] :: Ass.holed 87 75 kS75 (some ad4915) C3255 l3253 t4859.toNat (A4916, (l3253.getD t4859.toNat []).length, C4917) :: Ass.own 3 (Kd.int .i64) A3258 C3259 l3257 :: os) 87 40 (by kernel_rfl) (by kernel_rfl) (by kernel_rfl) (by kernel_rfl) (fun _ _ => rfl) ?_)
        intro A4916 C4917 hS
        refine EL.quick 1 [40, 41] [(40, .slice A4916 (l3253.getD t4859.toNat []).length C4917), (41, .int .i64 t4861)] (by kernel_rfl) ?_
        obtain ⟨h4918, H⟩ := ite_in H
        obtain ⟨h4919, H⟩ := ite_in H
        obtain ⟨ad4920, rfl⟩ := St.rd_some hS (Rd.own 0 75 rfl) h4918 h4919
        refine EL.of (EO.Y (YO.idx 87 4 ad4920 (l3253.getD t4859.toNat []).length C4917 .i64 t4861 42 (by kernel_rfl) (by kernel_rfl) (by kernel_rfl) (by kernel_rfl) h4918 h4919) ?_)
        refine EL.quick 1 [4] [(4, .pointer (some ((ad4920.add (t4861.toNat * 4)).add 0)))] (by kernel_rfl) ?_
        refine EL.done (by kernel_rfl) ?_
        refine EQ.code ?_
        refine EW.ret (by kernel_rfl) ?_
        refine EQ.leave (.pointer (some ((ad4920.add (t4861.toNat * 4)).add 0))) (by kernel_rfl) ⟨_, rfl, ?_⟩
        refine EL.quick 1 [2, 7] [(2, .func (.func 70) #[.agg #[.int .i64 2, .int .i32 0, .int .i64 a3262]] #[]), (7, .pointer (some ((ad4920.add (t4861.toNat * 4)).add 0)))] (by kernel_rfl) ?_
        refine EL.done (by kernel_rfl) ?_
        refine EQ.code ?_
        refine EW.seq (x := Cd69.r.r.l) (y := Cd69.r.r.r) (by kernel_rfl) ?_
        refine EW.seq (x := Cd69.r.r.l.l) (y := Cd69.r.r.l.r) (by kernel_rfl) ?_
        refine EW.region (id := 2) (ops := Cd69.r.r.l.l.ops) (by kernel_rfl) ?_
        refine EL.quick 6 [2, 7, 13, 16] [(2, .func (.func 70) #[.agg #[.int .i64 2, .int .i32 0, .int .i64 a3262]] #[]), (7, .pointer (some ((ad4920.add (t4861.toNat * 4)).add 0))), (13, .bool (false)), (16, .pointer (some ((ad4920.add (t4861.toNat * 4)).add 1)))] (by kernel_rfl) ?_
        refine EL.of (EO.Y (YO.loadEl hS kS75 ad4920 C4917 (l3253.getD t4859.toNat []) (Rd.own 0 75 rfl) zS75 encS75 encS75_of t4861 h4918 h4919 3 4 1 1 rfl (.int .i64 (((l3253.getD t4859.toNat []).getD t4861.toNat zS75).f1)) 17 (by kernel_rfl) (by kernel_rfl) (by kernel_rfl) (by kernel_rfl)) ?_)
        refine EL.quick 2 [2, 7, 19] [(2, .func (.func 70) #[.agg #[.int .i64 2, .int .i32 0, .int .i64 a3262]] #[]), (7, .pointer (some ((ad4920.add (t4861.toNat * 4)).add 0))), (19, .bool (!(decide ((((l3253.getD t4859.toNat []).getD t4861.toNat zS75).f1) = 0))))] (by kernel_rfl) ?_
        refine EL.done (by kernel_rfl) ?_
        refine EQ.code ?_
        refine EW.condQ (b := !(decide ((((l3253.getD t4859.toNat []).getD t4861.toNat zS75).f1) = 0))) (o := (.tmp 19)) (x := Cd69.r.r.l.r.l) (y := Cd69.r.r.l.r.r) ((((l3253.getD t4859.toNat []).getD t4861.toNat zS75).f1) = 0) (false) (by kernel_rfl) (by kernel_rfl) ⟨fun h => (by rw [decide_eq_true h] <;> rfl), fun h => (by rw [decide_eq_false h] <;> rfl)⟩ (fun h4922 => ?_) (fun h4922 => ?_)
        · rw [if_pos h4922] at H
          refine EW.skip (by kernel_rfl) ?_
          refine EQ.code ?_
          refine EW.seq (x := Cd69.r.r.r.l) (y := Cd69.r.r.r.r) (by kernel_rfl) ?_
          refine EW.region (id := 4) (ops := Cd69.r.r.r.l.ops) (by kernel_rfl) ?_
          refine EL.quick 2 [20, 21] [(20, .func (.func 70) #[.agg #[.int .i64 2, .int .i32 0, .int .i64 a3262]] #[]), (21, .pointer (some ((ad4920.add (t4861.toNat * 4)).add 0)))] (by kernel_rfl) ?_
          refine EL.inline 70 [.agg #[.int .i64 2, .int .i32 0, .int .i64 a3262], .pointer (some ((ad4920.add (t4861.toNat * 4)).add 0))] 22 (by kernel_rfl) (by kernel_rfl) (by kernel_rfl) ?_
          refine calls_of_EW (args := [.agg #[.int .i64 2, .int .i32 0, .int .i64 a3262], .pointer (some ((ad4920.add (t4861.toNat * 4)).add 0))]) (c := Cd70) 19 Try.func70 (by kernel_rfl) (by kernel_rfl) (by kernel_rfl) ?_
          refine EW.seq (x := Cd70.l) (y := Cd70.r) (by kernel_rfl) ?_
          refine EW.region (id := 0) (ops := Cd70.l.ops) (by kernel_rfl) ?_
          refine EL.of (EO.box hS 104 (.agg #[.int .i64 2, .int .i32 0, .int .i64 a3262]) [.int .i64 2, .int .i32 0, .int .i64 a3262] 2 (by kernel_rfl) (by kernel_rfl) (by kernel_rfl) (by first | rfl | kernel_rfl) ?_)
          intro g4929 w hS
          refine EL.done (by kernel_rfl) ?_
          refine EQ.code ?_
          obtain ⟨l4930, hl4930, H⟩ := lt_out H
          obtain ⟨l4931, hl4931, H⟩ := lt_out H
          obtain ⟨l4932, hl4932, H⟩ := lt_out H
          have hS := hS.drew
          refine EW.draw (B := B) (id := 1) (ops := Cd70.r.ops) [Ass.box 104 g4929 [.int .i64 2, .int .i32 0, .int .i64 a3262], Ass.box 99 g3252 [.slice (some ad4915) l3253.length C3255, .slice A3258 l3257.length C3259], Ass.holed 87 75 kS75 (some ad4915) C3255 l3253 t4859.toNat ((some ad4920), (l3253.getD t4859.toNat []).length, C4917), Ass.own 3 (Kd.int .i64) A3258 C3259 l3257] [] (by kernel_rfl) (by kernel_rfl) ?_
          have hN : Region.noSelect Cd70.r.ops = true := (by kernel_rfl)
          have hF : freeAll Cd70.r.ops = true := (by kernel_rfl)
          have hC : Core B [Ass.box 104 g4929 [.int .i64 2, .int .i32 0, .int .i64 a3262], Ass.box 99 g3252 [.slice (some ad4915) l3253.length C3255, .slice A3258 l3257.length C3259], Ass.holed 87 75 kS75 (some ad4915) C3255 l3253 t4859.toNat ((some ad4920), (l3253.getD t4859.toNat []).length, C4917), Ass.own 3 (Kd.int .i64) A3258 C3259 l3257] [] _ := ⟨_, _, hS.re [4, 4, 4, 3] [] rfl sub_self⟩
          refine ED.quick hN hF hC [0, 1, 2, 3, 5, 7] [4, 5, 6, 7, 9, 11] 12 [(4, .pointer (some ((ad4920.add (t4861.toNat * 4)).add 0))), (5, .pointer (some ((ad4920.add (t4861.toNat * 4)).add 0))), (6, .pointer (some ((ad4920.add (t4861.toNat * 4)).add 0))), (7, .pointer (some ⟨g4929, 0, none⟩)), (9, .pointer (some ⟨g4929, 1, none⟩)), (11, .pointer (some ⟨g4929, 2, none⟩))] #[true, true, true, true, false, true, false, true, false, false, false, false, false, false, false, false, false, false] (by kernel_rfl) (by kernel_rfl) ?_
          refine ED.Y hN hF hC 4 11 #[true, true, true, true, true, true, false, true, false, false, false, false, false, false, false, false, false, false] (by kernel_rfl) (by kernel_rfl) rfl (fun _ _ _ hS => YO.loadBox hS 0 rfl 3 0 1 (.int .i64 2) 8 (by kernel_rfl) (by kernel_rfl) (by kernel_rfl) (by kernel_rfl)) ?_
          refine ED.quick hN hF hC [9, 10] [5, 6, 8, 9, 11, 14] 9 [(5, .pointer (some ((ad4920.add (t4861.toNat * 4)).add 0))), (6, .pointer (some ((ad4920.add (t4861.toNat * 4)).add 0))), (8, .int .i64 2), (9, .pointer (some ⟨g4929, 1, none⟩)), (11, .pointer (some ⟨g4929, 2, none⟩)), (14, .pointer (some ((ad4920.add (t4861.toNat * 4)).add 1)))] #[true, true, true, true, true, true, false, true, false, true, true, false, false, false, false, false, false, false] (by kernel_rfl) (by kernel_rfl) ?_
          refine ED.Y hN hF hC 6 8 #[true, true, true, true, true, true, true, true, false, true, true, false, false, false, false, false, false, false] (by kernel_rfl) (by kernel_rfl) rfl (fun _ _ _ hS => YO.loadBox hS 0 rfl 21 1 1 (.int .i32 0) 10 (by kernel_rfl) (by kernel_rfl) (by kernel_rfl) (by kernel_rfl)) ?_
          refine ED.Y hN hF hC 8 7 #[true, true, true, true, true, true, true, true, true, true, true, false, false, false, false, false, false, false] (by kernel_rfl) (by kernel_rfl) rfl (fun _ _ _ hS => YO.loadBox hS 0 rfl 73 2 1 (.int .i64 a3262) 12 (by kernel_rfl) (by kernel_rfl) (by kernel_rfl) (by kernel_rfl)) ?_
          refine ED.one 11 6 #[true, true, true, true, true, true, true, true, true, true, true, true, false, false, false, false, false, false] (by kernel_rfl) (by kernel_rfl) (by kernel_rfl) (EO.storeEl hS 1 kS75 75 ad4920 C4917 (l3253.getD t4859.toNat []) rfl t4861 h4918 h4919 zS75 3 4 1 rfl (.int .i64 2) (⟨((l3253.getD t4859.toNat []).getD t4861.toNat zS75).f0, 2, ((l3253.getD t4859.toNat []).getD t4861.toNat zS75).f2, ((l3253.getD t4859.toNat []).getD t4861.toNat zS75).f3⟩ : S75) l4930 hl4930 (Ass.box 104 g4929 [.int .i64 2, .int .i32 0, .int .i64 a3262] :: Ass.own 75 kS75 (some ad4920) C4917 l4930 :: Ass.box 99 g3252 [.slice (some ad4915) l3253.length C3255, .slice A3258 l3257.length C3259] :: Ass.holed 87 75 kS75 (some ad4915) C3255 l3253 t4859.toNat ((some ad4920), (l3253.getD t4859.toNat []).length, C4917) :: Ass.own 3 (Kd.int .i64) A3258 C3259 l3257 :: os) (by kernel_rfl) (by kernel_rfl) (by kernel_rfl) (by kernel_rfl) (by kernel_rfl) (by kernel_rfl) (fun w G vs hr h => (by have e := encS75_of _ _ _ _ h; subst e; exact ⟨[.int .i64 (((l3253.getD t4859.toNat []).getD t4861.toNat zS75).f0)], [.int .i64 2, .int .i32 (((l3253.getD t4859.toNat []).getD t4861.toNat zS75).f2), .int .i64 (((l3253.getD t4859.toNat []).getD t4861.toNat zS75).f3)], rfl, rfl, ⟨[.int .i64 2], [.int .i32 (((l3253.getD t4859.toNat []).getD t4861.toNat zS75).f2), .int .i64 (((l3253.getD t4859.toNat []).getD t4861.toNat zS75).f3)], rfl, rfl, ⟨[.int .i32 (((l3253.getD t4859.toNat []).getD t4861.toNat zS75).f2)], [.int .i64 (((l3253.getD t4859.toNat []).getD t4861.toNat zS75).f3)], rfl, rfl, ⟨[.int .i64 (((l3253.getD t4859.toNat []).getD t4861.toNat zS75).f3)], [], rfl, rfl, rfl⟩⟩⟩⟩)) rfl ?_)
          intro w hS
          have hC : Core B [Ass.box 104 g4929 [.int .i64 2, .int .i32 0, .int .i64 a3262], Ass.box 99 g3252 [.slice (some ad4915) l3253.length C3255, .slice A3258 l3257.length C3259], Ass.holed 87 75 kS75 (some ad4915) C3255 l3253 t4859.toNat ((some ad4920), (l3253.getD t4859.toNat []).length, C4917), Ass.own 3 (Kd.int .i64) A3258 C3259 l3257] [] _ := ⟨_, _, hS.re [4, 4, 4, 3] [] rfl sub_self⟩
          refine ⟨hC, ?_⟩
          refine ED.quick hN hF hC [12, 13] [6, 10, 12, 16] 4 [(6, .pointer (some ((ad4920.add (t4861.toNat * 4)).add 0))), (10, .int .i32 0), (12, .int .i64 a3262), (16, .pointer (some ((ad4920.add (t4861.toNat * 4)).add 2)))] #[true, true, true, true, true, true, true, true, true, true, true, true, true, true, false, false, false, false] (by kernel_rfl) (by kernel_rfl) ?_
          refine ED.one 14 3 #[true, true, true, true, true, true, true, true, true, true, true, true, true, true, true, false, false, false] (by kernel_rfl) (by kernel_rfl) (by kernel_rfl) (EO.storeEl hS 1 kS75 75 ad4920 C4917 l4930 rfl t4861 h4918 (lt_set h4919 hl4930) zS75 21 4 2 rfl (.int .i32 0) (⟨(l4930.getD t4861.toNat zS75).f0, (l4930.getD t4861.toNat zS75).f1, 0, (l4930.getD t4861.toNat zS75).f3⟩ : S75) l4931 hl4931 (Ass.box 104 g4929 [.int .i64 2, .int .i32 0, .int .i64 a3262] :: Ass.own 75 kS75 (some ad4920) C4917 l4931 :: Ass.box 99 g3252 [.slice (some ad4915) l3253.length C3255, .slice A3258 l3257.length C3259] :: Ass.holed 87 75 kS75 (some ad4915) C3255 l3253 t4859.toNat ((some ad4920), (l3253.getD t4859.toNat []).length, C4917) :: Ass.own 3 (Kd.int .i64) A3258 C3259 l3257 :: os) (by kernel_rfl) (by kernel_rfl) (by kernel_rfl) (by kernel_rfl) (by kernel_rfl) (by kernel_rfl) (fun w G vs hr h => (by have e := encS75_of _ _ _ _ h; subst e; exact ⟨[.int .i64 ((l4930.getD t4861.toNat zS75).f0)], [.int .i64 ((l4930.getD t4861.toNat zS75).f1), .int .i32 0, .int .i64 ((l4930.getD t4861.toNat zS75).f3)], rfl, rfl, ⟨[.int .i64 ((l4930.getD t4861.toNat zS75).f1)], [.int .i32 0, .int .i64 ((l4930.getD t4861.toNat zS75).f3)], rfl, rfl, ⟨[.int .i32 0], [.int .i64 ((l4930.getD t4861.toNat zS75).f3)], rfl, rfl, ⟨[.int .i64 ((l4930.getD t4861.toNat zS75).f3)], [], rfl, rfl, rfl⟩⟩⟩⟩)) rfl ?_)
          intro w hS
          have hC : Core B [Ass.box 104 g4929 [.int .i64 2, .int .i32 0, .int .i64 a3262], Ass.box 99 g3252 [.slice (some ad4915) l3253.length C3255, .slice A3258 l3257.length C3259], Ass.holed 87 75 kS75 (some ad4915) C3255 l3253 t4859.toNat ((some ad4920), (l3253.getD t4859.toNat []).length, C4917), Ass.own 3 (Kd.int .i64) A3258 C3259 l3257] [] _ := ⟨_, _, hS.re [4, 4, 4, 3] [] rfl sub_self⟩
          refine ⟨hC, ?_⟩
          refine ED.quick hN hF hC [15, 16] [12, 18] 1 [(12, .int .i64 a3262), (18, .pointer (some ((ad4920.add (t4861.toNat * 4)).add 3)))] #[true, true, true, true, true, true, true, true, true, true, true, true, true, true, true, true, true, false] (by kernel_rfl) (by kernel_rfl) ?_
          refine ED.one 17 0 #[true, true, true, true, true, true, true, true, true, true, true, true, true, true, true, true, true, true] (by kernel_rfl) (by kernel_rfl) (by kernel_rfl) (EO.storeEl hS 1 kS75 75 ad4920 C4917 l4931 rfl t4861 h4918 (lt_set (lt_set h4919 hl4930) hl4931) zS75 73 4 3 rfl (.int .i64 a3262) (⟨(l4931.getD t4861.toNat zS75).f0, (l4931.getD t4861.toNat zS75).f1, (l4931.getD t4861.toNat zS75).f2, a3262⟩ : S75) l4932 hl4932 (Ass.box 104 g4929 [.int .i64 2, .int .i32 0, .int .i64 a3262] :: Ass.own 75 kS75 (some ad4920) C4917 l4932 :: Ass.box 99 g3252 [.slice (some ad4915) l3253.length C3255, .slice A3258 l3257.length C3259] :: Ass.holed 87 75 kS75 (some ad4915) C3255 l3253 t4859.toNat ((some ad4920), (l3253.getD t4859.toNat []).length, C4917) :: Ass.own 3 (Kd.int .i64) A3258 C3259 l3257 :: os) (by kernel_rfl) (by kernel_rfl) (by kernel_rfl) (by kernel_rfl) (by kernel_rfl) (by kernel_rfl) (fun w G vs hr h => (by have e := encS75_of _ _ _ _ h; subst e; exact ⟨[.int .i64 ((l4931.getD t4861.toNat zS75).f0)], [.int .i64 ((l4931.getD t4861.toNat zS75).f1), .int .i32 ((l4931.getD t4861.toNat zS75).f2), .int .i64 a3262], rfl, rfl, ⟨[.int .i64 ((l4931.getD t4861.toNat zS75).f1)], [.int .i32 ((l4931.getD t4861.toNat zS75).f2), .int .i64 a3262], rfl, rfl, ⟨[.int .i32 ((l4931.getD t4861.toNat zS75).f2)], [.int .i64 a3262], rfl, rfl, ⟨[.int .i64 a3262], [], rfl, rfl, rfl⟩⟩⟩⟩)) rfl ?_)
          intro w hS
          have hC : Core B [Ass.box 104 g4929 [.int .i64 2, .int .i32 0, .int .i64 a3262], Ass.box 99 g3252 [.slice (some ad4915) l3253.length C3255, .slice A3258 l3257.length C3259], Ass.holed 87 75 kS75 (some ad4915) C3255 l3253 t4859.toNat ((some ad4920), (l3253.getD t4859.toNat []).length, C4917), Ass.own 3 (Kd.int .i64) A3258 C3259 l3257] [] _ := ⟨_, _, hS.re [4, 4, 4, 3] [] rfl sub_self⟩
          refine ⟨hC, ?_⟩
          refine ED.done (by kernel_rfl) ?_
          refine EQ.leaveN (.tuple #[]) (by kernel_rfl) ⟨_, rfl, ?_⟩
          refine EL.done (by kernel_rfl) ?_
          refine EQ.code ?_
          refine EW.seq (x := Cd69.r.r.r.r.l) (y := Cd69.r.r.r.r.r) (by kernel_rfl) ?_
          refine EW.region (id := 5) (ops := Cd69.r.r.r.r.l.ops) (by kernel_rfl) ?_
          refine EL.quick 1 [6] [(6, .bool (true))] (by kernel_rfl) ?_
          refine EL.done (by kernel_rfl) ?_
          refine EQ.code ?_
          refine EW.ret (by kernel_rfl) ?_
          have hS := St.as (os' := Ass.box 104 g4929 [.int .i64 2, .int .i32 0, .int .i64 a3262] :: Ass.box 99 g3252 [.slice (some ad4915) l3253.length C3255, .slice A3258 l3257.length C3259] :: Ass.deep 87 75 kS75 (some ad4915) C3255 (l3253.set t4859.toNat l4932) :: Ass.own 3 (Kd.int .i64) A3258 C3259 l3257 :: os) (St.close hS 1 2 rfl rfl (len_set (len_set (len_set rfl hl4930) hl4931) hl4932) (l3253.set t4859.toNat l4932) rfl) rfl
          have hS := St.as hS (os' := Ass.box 104 g4929 [.int .i64 2, .int .i32 0, .int .i64 a3262] :: Ass.box 99 g3252 [.slice (some ad4915) (l3253.set t4859.toNat l4932).length C3255, .slice A3258 l3257.length C3259] :: Ass.deep 87 75 kS75 (some ad4915) C3255 (l3253.set t4859.toNat l4932) :: Ass.own 3 (Kd.int .i64) A3258 C3259 l3257 :: os) (by simp only [List.length_set])
          exact EQ.leave (.bool (true)) (by kernel_rfl) ⟨_, rfl, (l3253.set t4859.toNat l4932), true, (some ad4915), C3255, rfl, (hS.re [3, 3, 3] [3] rfl (sub_self)), H⟩
        · rw [if_neg h4922] at H
          refine EW.seq (x := Cd69.r.r.l.r.l.l) (y := Cd69.r.r.l.r.l.r) (by kernel_rfl) ?_
          refine EW.region (id := 3) (ops := Cd69.r.r.l.r.l.l.ops) (by kernel_rfl) ?_
          refine EL.quick 1 [6] [(6, .bool (false))] (by kernel_rfl) ?_
          refine EL.done (by kernel_rfl) ?_
          refine EQ.code ?_
          refine EW.ret (by kernel_rfl) ?_
          refine EQ.ret ?_
          have hS := St.as (os' := Ass.box 99 g3252 [.slice (some ad4915) l3253.length C3255, .slice A3258 l3257.length C3259] :: Ass.deep 87 75 kS75 (some ad4915) C3255 l3253 :: Ass.own 3 (Kd.int .i64) A3258 C3259 l3257 :: os) (St.close hS 0 1 rfl rfl rfl l3253 (set_getD _ _)) rfl
          exact EQ.leave (.bool (false)) (by kernel_rfl) ⟨_, rfl, l3253, false, (some ad4915), C3255, rfl, (hS.re [2, 2, 2] [] rfl (sub_self)), H⟩
  · rintro v w ⟨x4652, x4655, A4653, C4654, rfl, hS, H⟩
    rw [hj4656] at H
    (try dsimp only at H)
    refine EL.quick 1 [6] [(6, .bool (x4655))] (by kernel_rfl) ?_
    refine EL.done (by kernel_rfl) ?_
    refine EQ.code ?_
    refine EW.ret (by kernel_rfl) ?_
    simp only [Option.some.injEq, Prod.mk.injEq] at H
    obtain ⟨rfl, rfl⟩ := H
    exact EQ.leave (.bool (x4655)) (by kernel_rfl) ⟨_, rfl, A4653, C4654, rfl, (hS.re [2, 2, 2] [] rfl (sub_self))⟩

end Go.Proofs.Ytjfnejcanlkknaa.G
